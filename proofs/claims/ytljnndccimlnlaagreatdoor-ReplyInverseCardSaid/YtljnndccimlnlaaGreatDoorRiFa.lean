/- The functions of the law: their models, and that the program does what they say. -/
import Derived.Test.YtljnndccimlnlaaGreatDoorRiHp
import Derived.Test.YtljnndccimlnlaaGreatDoorRm
import Derived.Test.YtljnndccimlnlaaGreatDoorB5
set_option linter.unusedVariables false
set_option linter.unusedSimpArgs false
set_option maxRecDepth 100000
namespace Go.Proofs.YtljnndccimlnlaaGreatDoor
open Go.Proofs.Model Go Go.Gx Go.Mx Go.Sx
def hkA:kK:=zJ (zJ (zJ (zJ (zJ (zf4 tab) 7 zh1) 37 zaa) 81 zdJ) 95 zcf) 124 (zdT 9)
theorem zq:zoD Tryz.prog hkA [124,95,81,37,7]:=kF (kF (kF (kF (kF (zjp (by kernel_rfl)) 7 zh1) 37 _) 81 _) 95 _) 124 _
abbrev AT(T:FT):Prop:=zj4 Tryz.prog glA hkA T
abbrev Lp(fn:Func)(p:List Nat)(g:LF):Prop:=znJ Tryz.prog glA hkA (.loop (roundOf fn p)) g
def T0:FT:=[(7,zL [] [.bool] fun _=>some (true,())),(37,zku),(81,zpo),(95,zk0),(124,zls),(98,zfW),(172,zkk),(181,zfW)]
theorem K0:zj4 Tryz.prog glA hkA T0:=⟨zh2 rfl,zc5 rfl,zd3 rfl,zdi rfl,zdl rfl,xQ rfl,zc2 rfl,xQ rfl,trivial⟩
def T34(N:Nat):FT:=(34,zcU (.pair (.sl .u8) (.int .i64)) [] [(.sl .u8)] fun p x=>zj N p)::T0
theorem K34(N:Nat):AT (T34 N):=fnP zq K0 .auto Tryz.func34 .nil
def T38(N:Nat):FT:=(38,zL [(.sl .u8),(.sl .u8)] [.bool] fun x=>xU N x.1 x.2.1)::(T34 N)
theorem K38(N:Nat):AT (T38 N):=fnA zq (K34 N) .auto Tryz.func38 .nil
def T24(N:Nat):FT:=(24,zL [(.sl .u8),(.sl .u8)] [.bool] fun x=>zk N x.1 x.2.1)::(T38 N)
theorem K24(N:Nat):AT (T24 N):=fnA zq (K38 N) .auto Tryz.func24 .nil
def T20(N:Nat):FT:=(20,zcU (.pair (.sl .u8) (.int .i64)) [.str] [.bool] fun p x=>za N p x.1)::(T24 N)
theorem K20(N:Nat):AT (T20 N):=fnP zq (K24 N) .auto Tryz.func20 .nil
def T23(N:Nat):FT:=(23,zcU (.pair (.sl .u8) (.int .i64)) [.str] [.str,.bool] fun p x=>zA N p x.1)::(T20 N)
theorem K23(N:Nat):AT (T23 N):=fnP zq (K20 N) .auto Tryz.func23 .nil
def zsR(N:Nat):FT:=(134,zL [(.sl .u8)] [(.int .i32),(.int .i64)] fun x=>qa N x.1)::(T23 N)
theorem zsx(N:Nat):AT (zsR N):=fnA zq (K23 N) .auto Tryz.func134 .nil
def zM(N:Nat):LF:=zw [] ⟨(.isl .u8)::dr 5 ((.isl .u8)::(.int .i64)::(.cst (.int .i64 (0:Int)))::dr 13 []),[]⟩ [(.ret,⟨.drop::.drop::(.int .i32)::(.cst (.int .i64 (1:Int)))::dr 18 [],[]⟩),(.exit 0,⟨(.isl .u8)::dr 21 [],[]⟩)] (lsT [(.l .u8),(.l .u8),.i] (fun x=>zE N N x.1 x.2.1 x.2.2.1) fun R o κ=>(zn o (fun a7=>κ 0 [.i a7]) (fun b8=>κ 1 [.l .u8 b8])))
theorem qp(N:Nat):Lp Tryz.f118 [1,0,1,2] (zM N):=zT zq (zsx N) .auto .nil [(.l .u8),(.l .u8),.i] [[.i],[(.l .u8)]] (fun m x=>zE N m x.1 x.2.1 x.2.2.1) ⟨fun x=>(Sum.inl x.1),fun x=>(Sum.inr x.1),()⟩ N
def zsM(N:Nat):FT:=(118,zL [(.sl .u8)] [(.int .i32),(.int .i64)] fun x=>zR N x.1)::(zsR N)
theorem zvE(N:Nat):AT (zsM N):=fnA zq (zsx N) (.two .auto (.two (.two .auto (.one (.by_ (zM N)))) .auto)) Tryz.func118 (.cons (qp N) .nil)
def T60(N:Nat):FT:=(60,zL [(.int .i32)] [.bool] fun x=>qd N x.1)::(zsM N)
theorem K60(N:Nat):AT (T60 N):=fnA zq (zvE N) .auto Tryz.func60 .nil
def zsW(N:Nat):FT:=(149,zL [(.int .i64)] [.str] fun x=>ku N x.1)::(T60 N)
theorem zvJ(N:Nat):AT (zsW N):=fnA zq (K60 N) .auto Tryz.func149 .nil
def zs1(N:Nat):FT:=(165,zL [(.int .u64)] [(.int .i64)] fun x=>wk N x.1)::(zsW N)
theorem zvN(N:Nat):AT (zs1 N):=fnA zq (zvJ N) .auto Tryz.func165 .nil
def zs0(N:Nat):FT:=(164,zL [(.int .i64)] [(.int .i64)] fun x=>wE N x.1)::(zs1 N)
theorem zvM(N:Nat):AT (zs0 N):=fnA zq (zvN N) .auto Tryz.func164 .nil
def zs2(N:Nat):FT:=(166,zL [.bool] [(.int .i64)] fun x=>wD N x.1)::(zs0 N)
theorem zvO(N:Nat):AT (zs2 N):=fnA zq (zvM N) .auto Tryz.func166 .nil
def zsX(N:Nat):FT:=(150,zL [(.int .u64)] [(.int .i64)] fun x=>zK N x.1)::(zs2 N)
theorem zsz(N:Nat):AT (zsX N):=fnA zq (zvO N) .auto Tryz.func150 .nil
def qI(N:Nat):LF:=zw [] ⟨(.sl 0 0 false)::(.int .u64)::.drop::.drop::(.int .i64)::dr 162 [],[.seq .u8 0 0 true]⟩ [(.exit 0,⟨(.sl 0 0 false)::(.int .u64)::.drop::.drop::(.int .i64)::dr 162 [],[.seq .u8 0 0 true]⟩)] (lsT [.n,.n,.i,.i,(.l .u8)] (fun x=>zg N N x.1 x.2.1 x.2.2.1 x.2.2.2.1 x.2.2.2.2.1) fun R o κ=>κ 0 [.n o.1,.n o.2.1,.i o.2.2.1,.i o.2.2.2.1,.l .u8 o.2.2.2.2])
theorem wq(N:Nat):Lp Tryz.f151 [1,0,2] (qI N):=zT zq (zsz N) .auto .nil [.n,.n,.i,.i,(.l .u8)] [[.n,.n,.i,.i,(.l .u8)]] (fun m x=>zg N m x.1 x.2.1 x.2.2.1 x.2.2.2.1 x.2.2.2.2.1) ⟨fun x=>(x.1,x.2.1,x.2.2.1,x.2.2.2.1,x.2.2.2.2.1),()⟩ N
def T77(N:Nat):FT:=(77,zL [(.int .u32)] [.str] fun x=>zf N x.1)::(zsX N)
theorem K77(N:Nat):AT (T77 N):=fnA zq (zsz N) (.two .auto (.two (.cal 2 101 (.two .auto (.two (.cal 2 129 (.two .auto (.two (.two .auto (.two (.two .auto (.two .auto (.two .auto (.two (.cal 3 151 (.two .auto (.two (.one (.by_ (qI N))) .auto)) .auto) .auto)))) .auto)) .auto)) .auto) .auto)) .auto) .auto)) Tryz.func77 (.cons (wq N) .nil)
def T61(N:Nat):FT:=(61,zL [.str] [(.int .u32),.bool] fun x=>jK N x.1)::(T77 N)
theorem K61(N:Nat):AT (T61 N):=fnA zq (K77 N) .auto Tryz.func61 .nil
def zX(N:Nat):LF:=zw [] ⟨(.isl .u8)::(.fn 60 [] [])::(.cst (.bool true))::dr 4 ((.int .i64)::dr 22 []),[.gone,.gone]⟩ [(.ret,⟨dr 6 ((.int .i64)::dr 23 []),[.gone,.gone]⟩),(.exit 0,⟨dr 30 [],[.gone,.gone]⟩)] (lsT [(.l .u8),.i] (fun x=>zl N N x.1 x.2.1) fun R o κ=>(zn o (fun a14=>κ 0 [.i a14]) (fun b15=>κ 1 [])))
def zS(N:Nat):LF:=zw [] ⟨(.isl .u8)::(.fn 60 [] [])::(.cst (.bool true))::dr 4 ((.int .i64)::dr 22 []),[.gone,.gone]⟩ [(.ret,⟨dr 6 ((.int .i64)::dr 23 []),[.gone,.gone]⟩),(.exit 0,⟨dr 30 [],[.gone,.gone]⟩)] (lsT [(.l .u8),.i] (fun x=>zy N N x.1 x.2.1) fun R o κ=>(zn o (fun a32=>κ 0 [.i a32]) (fun b33=>κ 1 [])))
theorem qU(N:Nat):Lp Tryz.f94 [1,1,0,2] (zX N):=zT zq (K61 N) .auto .nil [(.l .u8),.i] [[.i],[]] (fun m x=>zl N m x.1 x.2.1) ⟨fun x=>(Sum.inl x.1),fun _=>(Sum.inr ()),()⟩ N
theorem qP(N:Nat):Lp Tryz.f94 [1,1,0,2] (zS N):=zT zq (K61 N) .auto .nil [(.l .u8),.i] [[.i],[]] (fun m x=>zy N m x.1 x.2.1) ⟨fun x=>(Sum.inl x.1),fun _=>(Sum.inr ()),()⟩ N
def T35(N:Nat):FT:=(35,zcU (.pair (.sl .u8) (.int .i64)) [] [(.int .u32),.bool] fun p x=>zr N p)::(T61 N)
theorem K35(N:Nat):AT (T35 N):=fnP zq (K61 N) (.two .auto (.two .auto (.two .auto (.two (.cal 2 58 (.two .auto (.two (.cal 1 59 (.two .auto (.two (.cal 2 94 (.two .auto (.two .auto (.two (.one (.by_ (zX N))) .auto))) .auto) .auto)) .auto) .auto)) .auto) (.two (.two .auto (.two (.cal 5 58 (.two .auto (.two (.cal 1 59 (.two .auto (.two (.cal 2 94 (.two .auto (.two .auto (.two (.one (.by_ (zS N))) .auto))) .auto) .auto)) .auto) .auto)) .auto) .auto)) .auto))))) Tryz.func35 (.cons (qU N) (.cons (qP N) .nil))
def T66(N:Nat):FT:=(66,zL [(.sl .u8),.u8] [(.int .i64)] fun x=>kj N x.1 x.2.1)::(T35 N)
theorem K66(N:Nat):AT (T66 N):=fnA zq (K35 N) .auto Tryz.func66 .nil
def zsU(N:Nat):FT:=(147,zL [(.sl .u8)] [(.sl .u8)] fun x=>qG N x.1)::(T66 N)
theorem zvI(N:Nat):AT (zsU N):=zxM zq (K66 N) .auto Tryz.func147 .nil
def T97(N:Nat):FT:=(97,zL [(.sl .u8),(.int .i64)] [(.sl .u8),(.int .i64),.bool] fun x=>zm N x.1 x.2.1)::(zsU N)
theorem K97(N:Nat):AT (T97 N):=fnA zq (zvI N) .auto Tryz.func97 .nil
def zsY(N:Nat):FT:=(158,zL [.str,.str] [.bool] fun x=>jx N x.1 x.2.1)::(T97 N)
theorem zvK(N:Nat):AT (zsY N):=fnA zq (K97 N) .auto Tryz.func158 .nil
def zsS(N:Nat):FT:=(141,zL [.str,.str] [.str,.bool] fun x=>jv N x.1 x.2.1)::(zsY N)
theorem zvG(N:Nat):AT (zsS N):=fnA zq (zvK N) .auto Tryz.func141 .nil
def zsN(N:Nat):FT:=(121,zL [.str,.str] [.str,.bool] fun x=>jG N x.1 x.2.1)::(zsS N)
theorem zvF(N:Nat):AT (zsN N):=fnA zq (zvG N) .auto Tryz.func121 .nil
def zsZ(N:Nat):FT:=(159,zL [.str,.str] [.bool] fun x=>jy N x.1 x.2.1)::(zsN N)
theorem zvL(N:Nat):AT (zsZ N):=fnA zq (zvF N) .auto Tryz.func159 .nil
def zsT(N:Nat):FT:=(142,zL [.str,.str] [.str,.bool] fun x=>jw N x.1 x.2.1)::(zsZ N)
theorem zvH(N:Nat):AT (zsT N):=fnA zq (zvL N) .auto Tryz.func142 .nil
def zsO(N:Nat):FT:=(122,zL [.str,.str] [.str,.bool] fun x=>jH N x.1 x.2.1)::(zsT N)
theorem zsv(N:Nat):AT (zsO N):=fnA zq (zvH N) .auto Tryz.func122 .nil
def jC(N:Nat):LF:=zw [(3,.u8)] ⟨.u8::.drop::.drop::(.gs 0 1)::.drop::.drop::(.int .i64)::dr 14 [],[.seq .u8 1 0 false]⟩ [(.exit 0,⟨dr 3 ((.gs 0 1)::dr 17 []),[.seq .u8 1 0 false]⟩)] (lsT [.c,.i,(.l .u8)] (fun x=>wh N N x.1 x.2.1 x.2.2.1) fun R o κ=>κ 0 [.l .u8 o])
theorem kH(N:Nat):Lp Tryz.f83 [1,1,0,1,2] (jC N):=zT zq (zsv N) .auto .nil [.c,.i,(.l .u8)] [[(.l .u8)]] (fun m x=>wh N m x.1 x.2.1 x.2.2.1) ⟨fun x=>x.1,()⟩ N
def T83(N:Nat):FT:=(83,zL [.u8] [(.sl .u8)] fun x=>zag N x.1)::(zsO N)
theorem K83(N:Nat):AT (T83 N):=fnA zq (zsv N) (.two .auto (.two .auto (.two (.two .auto (.one (.by_ (jC N)))) .auto))) Tryz.func83 (.cons (kH N) .nil)
def jD(N:Nat):LF:=zw [] ⟨.u8::dr 4 ((.gs 0 0)::(.cst (.int .i64 (5:Int)))::(.int .i64)::dr 10 []),[.seq .str 0 0 true]⟩ [(.ret,⟨.drop::.drop::.str::dr 15 [],[.seq .str 0 0 true]⟩),(.exit 0,⟨dr 18 [],[.seq .str 0 0 true]⟩)] (lsT [.c,.i,(.l .str)] (fun x=>wi N N x.1 x.2.1 x.2.2.1) fun R o κ=>(zn o (fun a9=>κ 0 [.s a9.1,.l .str a9.2]) (fun b10=>κ 1 [.l .str b10])))
theorem kI(N:Nat):Lp Tryz.f84 [1,0,1,2] (jD N):=zT zq (K83 N) .auto .nil [.c,.i,(.l .str)] [[.s,(.l .str)],[(.l .str)]] (fun m x=>wi N m x.1 x.2.1 x.2.2.1) ⟨fun x=>(Sum.inl (x.1,x.2.1)),fun x=>(Sum.inr x.1),()⟩ N
def T84(N:Nat):FT:=(84,zL [.u8] [.str] fun x=>za5 N x.1)::(T83 N)
theorem K84(N:Nat):AT (T84 N):=fnA zq (K83 N) (.two .auto (.two (.two .auto (.one (.by_ (jD N)))) .auto)) Tryz.func84 (.cons (kI N) .nil)
def jm(N:Nat):LF:=zw [] ⟨(.fn 145 [] [])::(.ptr 1 0 1)::dr 3 ((.gs 0 0)::(.int .i64)::(.int .i64)::dr 11 []),[.seq .u8 0 0 true,.cells [(.gs 0 0)] 0]⟩ [(.exit 0,⟨dr 19 [],[.seq .u8 0 0 true,.cells [(.gs 0 0)] 0]⟩)] (lsT [.i,.i,(.l .u8)] (fun x=>jd N N x.1 x.2.1 x.2.2.1) fun R o κ=>κ 0 [.l .u8 o])
theorem kk(N:Nat):Lp Tryz.f144 [1,2] (jm N):=zT zq (K84 N) .auto .nil [.i,.i,(.l .u8)] [[(.l .u8)]] (fun m x=>jd N m x.1 x.2.1 x.2.2.1) ⟨fun x=>x.1,()⟩ N
def zsP(N:Nat):FT:=(125,zL [.str] [.str] fun x=>kY N x.1)::(T84 N)
theorem zoG(N:Nat):AT (zsP N):=fnA zq (K84 N) (.two .auto (.two .auto (.two .auto (.two (.cal 1 144 (.two .auto (.one (.by_ (jm N)))) .auto) .auto)))) Tryz.func125 (.cons (kk N) .nil)
def qV(N:Nat):LF:=zw [] ⟨.drop::(.map 0)::dr 3 ((.isl .u8)::(.int .i64)::(.int .i64)::dr 10 []),[.kv .str .u8 0]⟩ [(.exit 0,⟨.drop::(.map 0)::dr 16 [],[.kv .str .u8 0]⟩)] (lsT [(.l .u8),.i,.i,(.l (.pair .str .u8))] (fun x=>jj N N x.1 x.2.1 x.2.2.1 x.2.2.2.1) fun R o κ=>κ 0 [.l (.pair .str .u8) o])
def qW(N:Nat):LF:=zw [] ⟨dr 7 (.u8::(.map 0)::dr 24 ((.gs 1 0)::(.int .i64)::(.int .i64)::dr 17 [])),[.kv .str .u8 0,.seq .str 0 0 true]⟩ [(.ret,⟨.drop::.drop::.u8::(.cst (.bool false))::dr 49 [],[.kv .str .u8 0,.seq .str 0 0 true]⟩),(.exit 0,⟨dr 7 (.u8::dr 45 []),[.kv .str .u8 0,.seq .str 0 0 true]⟩)] (lsT [.c,.i,.i,(.l (.pair .str .u8)),(.l .str)] (fun x=>qu N N x.1 x.2.1 x.2.2.1 x.2.2.2.1 x.2.2.2.2.1) fun R o κ=>(zn o (fun a50=>κ 0 [.c a50.1,.l (.pair .str .u8) a50.2.1,.l .str a50.2.2]) (fun b51=>κ 1 [.c b51.1,.l (.pair .str .u8) b51.2.1,.l .str b51.2.2])))
theorem wL(N:Nat):Lp Tryz.f123 [1,1,0,1,2] (qV N):=zT zq (zoG N) .auto .nil [(.l .u8),.i,.i,(.l (.pair .str .u8))] [[(.l (.pair .str .u8))]] (fun m x=>jj N m x.1 x.2.1 x.2.2.1 x.2.2.2.1) ⟨fun x=>x.1,()⟩ N
theorem wM(N:Nat):Lp Tryz.f96 [1,1,1,1,1,1,1,0,1,2] (qW N):=zT zq (zoG N) .auto .nil [.c,.i,.i,(.l (.pair .str .u8)),(.l .str)] [[.c,(.l (.pair .str .u8)),(.l .str)],[.c,(.l (.pair .str .u8)),(.l .str)]] (fun m x=>qu N m x.1 x.2.1 x.2.2.1 x.2.2.2.1 x.2.2.2.2.1) ⟨fun x=>(Sum.inl (x.1,x.2.1,x.2.2.1)),fun x=>(Sum.inr (x.1,x.2.1,x.2.2.1)),()⟩ N
def T96(N:Nat):FT:=(96,zL [.str] [.u8,.bool] fun x=>wK N x.1)::(zsP N)
theorem K96(N:Nat):AT (T96 N):=fnA zq (zoG N) (.two .auto (.two .auto (.two .auto (.two .auto (.two .auto (.two .auto (.two (.cal 0 123 (.two .auto (.two .auto (.two (.two .auto (.one (.by_ (qV N)))) .auto))) .auto) (.two (.two .auto (.one (.by_ (qW N)))) .auto)))))))) Tryz.func96 (.cons (wL N) (.cons (wM N) .nil))
def T36(N:Nat):FT:=(36,zcU (.pair (.sl .u8) (.int .i64)) [(.int .u32)] [uR1] fun p x=>zV N p x.1)::(T96 N)
theorem K36(N:Nat):AT (T36 N):=fnP zq (K96 N) (.two .auto (.two .auto (.two .auto (.two (.two .auto (.one (.one (.two .auto (.two .auto (.two (.one (.two .auto (.two (.two (.by_ (zld Tryz.prog glA (ze2 (T96 N)) Tryz.f36 [1,1,1,0,1,2,2,1,1,0,2,1,0,0] [(some 30,0),(some 31,1),(some 32,3),(some 33,7),(some 34,15),(some 35,31),(some 36,15),(some 37,79),(some 38,207),(some 39,463),(some 40,1023),(some 41,2047),(some 42,4095)])) .auto) .auto))) .auto)))))) .auto)))) Tryz.func36 (.cons (zxX zq (K96 N) Tryz.f36 [1,1,1,0,1,2,2,1,1,0,2,1,0,0] [(some 30,0),(some 31,1),(some 32,3),(some 33,7),(some 34,15),(some 35,31),(some 36,15),(some 37,79),(some 38,207),(some 39,463),(some 40,1023),(some 41,2047),(some 42,4095)]) .nil)
def zN(N:Nat):LF:=zw [] ⟨(.ptr 0 0 2)::.drop::(.ptr 1 0 10)::dr 11 ((.gs 2 0)::(.cst (.int .i64 (3:Int)))::(.int .i64)::dr 57 []),[.cells [(.isl .u8),(.int .i64)] 0,.cells [(.cst (.int .i64 (0:Int))),(.cst (.int .u32 (0:Int))),(.cst (.str ([]:List UInt8))),(.cst (.int .i64 (0:Int))),(.cst (.str ([]:List UInt8))),(.cst (.int .i64 (0:Int))),.u8,(.cst (.int .u32 (0:Int))),(.cst (.int .u32 (0:Int))),(.cst .jZ)] 0,.seq (.pair .str (.int .i64)) 0 0 true]⟩ [(.ret,⟨.drop::.drop::(.ptr 1 0 10)::dr 71 [],[.cells [(.isl .u8),(.int .i64)] 0,.cells [(.int .i64),(.cst (.int .u32 (0:Int))),(.cst (.str ([]:List UInt8))),(.cst (.int .i64 (0:Int))),.str,(.cst (.int .i64 (0:Int))),.u8,(.cst (.int .u32 (0:Int))),(.cst (.int .u32 (0:Int))),(.cst .jZ)] 0,.seq (.pair .str (.int .i64)) 0 0 true]⟩),(.exit 0,⟨(.ptr 0 0 2)::.drop::(.ptr 1 0 10)::dr 71 [],[.cells [(.isl .u8),(.int .i64)] 0,.cells [(.cst (.int .i64 (0:Int))),(.cst (.int .u32 (0:Int))),(.cst (.str ([]:List UInt8))),(.cst (.int .i64 (0:Int))),(.cst (.str ([]:List UInt8))),(.cst (.int .i64 (0:Int))),.u8,(.cst (.int .u32 (0:Int))),(.cst (.int .u32 (0:Int))),(.cst .jZ)] 0,.seq (.pair .str (.int .i64)) 0 0 true]⟩)] (lsT [.i,(.l .u8),.i,.c,(.l (.pair .str (.int .i64)))] (fun x=>zi N N x.1 x.2.1 x.2.2.1 x.2.2.2.1 x.2.2.2.2.1) fun R o κ=>(zn o (fun a23=>κ 0 [.l .u8 a23.1,.i a23.2.1,.i a23.2.2.1,.s a23.2.2.2.1,.c a23.2.2.2.2.1,.l (.pair .str (.int .i64)) a23.2.2.2.2.2]) (fun b24=>κ 1 [.l .u8 b24.1,.i b24.2.1,.c b24.2.2.1,.l (.pair .str (.int .i64)) b24.2.2.2])))
def zO(N:Nat):LF:=zw [] ⟨(.ptr 0 0 2)::.drop::(.ptr 1 0 10)::dr 4 ((.int .u32)::dr 42 ((.gs 3 0)::(.cst (.int .i64 (4:Int)))::(.int .i64)::dr 21 [])),[.cells [(.isl .u8),(.int .i64)] 0,.cells [(.cst (.int .i64 (0:Int))),(.cst (.int .u32 (0:Int))),(.cst (.str ([]:List UInt8))),(.cst (.int .i64 (0:Int))),(.cst (.str ([]:List UInt8))),(.cst (.int .i64 (0:Int))),.u8,(.cst (.int .u32 (0:Int))),(.cst (.int .u32 (0:Int))),(.cst .jZ)] 0,.gone,.seq .str 0 0 true]⟩ [(.ret,⟨.drop::.drop::(.ptr 1 0 10)::dr 71 [],[.cells [(.isl .u8),(.int .i64)] 0,.cells [(.int .i64),(.int .u32),(.cst (.str ([]:List UInt8))),(.cst (.int .i64 (0:Int))),(.cst (.str ([]:List UInt8))),(.cst (.int .i64 (0:Int))),.u8,(.cst (.int .u32 (0:Int))),(.cst (.int .u32 (0:Int))),(.cst .jZ)] 0,.gone,.seq .str 0 0 true]⟩),(.exit 2,⟨(.ptr 0 0 2)::.drop::(.ptr 1 0 10)::dr 4 ((.int .u32)::dr 66 []),[.cells [(.isl .u8),(.int .i64)] 0,.cells [(.cst (.int .i64 (0:Int))),(.cst (.int .u32 (0:Int))),(.cst (.str ([]:List UInt8))),(.cst (.int .i64 (0:Int))),(.cst (.str ([]:List UInt8))),(.cst (.int .i64 (0:Int))),.u8,(.cst (.int .u32 (0:Int))),(.cst (.int .u32 (0:Int))),(.cst .jZ)] 0,.gone,.seq .str 0 0 true]⟩)] (lsT [.i,.i,(.l .u8),.i,.c,(.l .str)] (fun x=>ze N N x.1 x.2.1 x.2.2.1 x.2.2.2.1 x.2.2.2.2.1 x.2.2.2.2.2.1) fun R o κ=>(zn o (fun a51=>κ 0 [.l .u8 a51.1,.i a51.2.1,.i a51.2.2.1,.i a51.2.2.2.1,.c a51.2.2.2.2.1,.l .str a51.2.2.2.2.2]) (fun b52=>κ 1 [.i b52.1,.l .u8 b52.2.1,.i b52.2.2.1,.c b52.2.2.2.1,.l .str b52.2.2.2.2])))
theorem qw(N:Nat):Lp Tryz.f21 [1,0,1,2] (zN N):=zT zq (K36 N) .auto .nil [.i,(.l .u8),.i,.c,(.l (.pair .str (.int .i64)))] [[(.l .u8),.i,.i,.s,.c,(.l (.pair .str (.int .i64)))],[(.l .u8),.i,.c,(.l (.pair .str (.int .i64)))]] (fun m x=>zi N m x.1 x.2.1 x.2.2.1 x.2.2.2.1 x.2.2.2.2.1) ⟨fun x=>(Sum.inl (x.1,x.2.1,x.2.2.1,x.2.2.2.1,x.2.2.2.2.1,x.2.2.2.2.2.1)),fun x=>(Sum.inr (x.1,x.2.1,x.2.2.1,x.2.2.2.1)),()⟩ N
theorem qx(N:Nat):Lp Tryz.f21 [1,1,1,1,1,0,1,2] (zO N):=zT zq (K36 N) .auto .nil [.i,.i,(.l .u8),.i,.c,(.l .str)] [[(.l .u8),.i,.i,.i,.c,(.l .str)],[.i,(.l .u8),.i,.c,(.l .str)]] (fun m x=>ze N m x.1 x.2.1 x.2.2.1 x.2.2.2.1 x.2.2.2.2.1 x.2.2.2.2.2.1) ⟨fun x=>(Sum.inl (x.1,x.2.1,x.2.2.1,x.2.2.2.1,x.2.2.2.2.1,x.2.2.2.2.2.1)),fun x=>(Sum.inr (x.1,x.2.1,x.2.2.1,x.2.2.2.1,x.2.2.2.2.1)),()⟩ N
def T21(N:Nat):FT:=(21,zcU (.pair (.sl .u8) (.int .i64)) [] [uR1] fun p x=>zB N p)::(T36 N)
theorem K21(N:Nat):AT (T21 N):=fnP zq (K36 N) (.two .auto (.two (.two .auto (.one (.by_ (zN N)))) (.two .auto (.two .auto (.two .auto (.two (.two .auto (.one (.by_ (zO N)))) .auto)))))) Tryz.func21 (.cons (qw N) (.cons (qx N) .nil))
def T78(N:Nat):FT:=(78,zL [uR1] [uR1,.bool] fun x=>jV N x.1)::(T21 N)
theorem K78(N:Nat):AT (T78 N):=fnA zq (K21 N) .auto Tryz.func78 .nil
def zP(N:Nat):LF:=zw [] ⟨(.isl .u8)::(.isl .u8)::dr 10 ((.int .i64)::(.int .i64)::dr 12 []),[]⟩ [(.ret,⟨dr 4 ((.cst (.bool false))::dr 21 []),[]⟩),(.exit 0,⟨dr 26 [],[]⟩)] (lsT [(.l .u8),(.l .u8),.i,.i] (fun x=>zI N N x.1 x.2.1 x.2.2.1 x.2.2.2.1) fun R o κ=>(zn o (fun a11=>κ 0 []) (fun b12=>κ 1 [])))
theorem qy(N:Nat):Lp Tryz.f15 [1,1,0,1,2] (zP N):=zT zq (K78 N) .auto .nil [(.l .u8),(.l .u8),.i,.i] [[],[]] (fun m x=>zI N m x.1 x.2.1 x.2.2.1 x.2.2.2.1) ⟨fun _=>(Sum.inl ()),fun _=>(Sum.inr ()),()⟩ N
def T15(N:Nat):FT:=(15,zL [(.sl .u8),(.sl .u8)] [.bool] fun x=>qH N x.1 x.2.1)::(T78 N)
theorem K15(N:Nat):AT (T15 N):=fnA zq (K78 N) (.two .auto (.two .auto (.two (.two .auto (.one (.by_ (zP N)))) .auto))) Tryz.func15 (.cons (qy N) .nil)
def T46(N:Nat):FT:=(46,zL [uR1,uR1] [.bool] fun x=>qk N x.1 x.2.1)::(T15 N)
theorem K46(N:Nat):AT (T46 N):=fnA zq (K15 N) .auto Tryz.func46 .nil
def zsD(N:Nat):FT:=(103,zcU uR1 [uR1] [] fun p x=>zat N p x.1)::(T46 N)
theorem zvv(N:Nat):AT (zsD N):=fnP zq (K46 N) .auto Tryz.func103 .nil
def zsF(N:Nat):FT:=(105,zcU uR1 [uR1] [] fun p x=>xH N p x.1)::(zsD N)
theorem zvx(N:Nat):AT (zsF N):=fnP zq (zvv N) .auto Tryz.func105 .nil
def zsH(N:Nat):FT:=(107,zcU uR1 [uR1] [] fun p x=>kf N p x.1)::(zsF N)
theorem zvz(N:Nat):AT (zsH N):=fnP zq (zvx N) .auto Tryz.func107 .nil
def zsK(N:Nat):FT:=(110,zcU uR1 [uR1] [] fun p x=>ji N p x.1)::(zsH N)
theorem zvC(N:Nat):AT (zsK N):=fnP zq (zvz N) .auto Tryz.func110 .nil
def T82(N:Nat):FT:=(82,zL [uR1] [uR1,.bool] fun x=>j0 N x.1)::(zsK N)
theorem K82(N:Nat):AT (T82 N):=fnA zq (zvC N) .auto Tryz.func82 .nil
def T51(N:Nat):FT:=(51,zL [uR1] [uR1,.bool] fun x=>kP N x.1)::(T82 N)
theorem K51(N:Nat):AT (T51 N):=fnA zq (K82 N) .auto Tryz.func51 .nil
def T88(N:Nat):FT:=(88,zL [.u8] [.bool] fun x=>xI N x.1)::(T51 N)
theorem K88(N:Nat):AT (T88 N):=fnA zq (K51 N) .auto Tryz.func88 .nil
def qQ(N:Nat):LF:=zw [] ⟨.drop::.str::(.ptr 2 0 1)::dr 4 ((.int .i64)::(.int .i64)::dr 10 []),[.gone,.gone,.cells [(.fn 88 [] [])] 0]⟩ [(.ret,⟨dr 4 ((.cst (.bool false))::dr 14 []),[.gone,.gone,.cells [(.fn 88 [] [])] 0]⟩),(.exit 0,⟨dr 19 [],[.gone,.gone,.cells [(.fn 88 [] [])] 0]⟩)] (lsT [.s,.i,.i] (fun x=>qD N N x.1 x.2.1 x.2.2.1) fun R o κ=>(zn o (fun a15=>κ 0 []) (fun b16=>κ 1 [])))
theorem wC(N:Nat):Lp Tryz.f114 [1,0,1,2] (qQ N):=zT zq (K88 N) .auto .nil [.s,.i,.i] [[],[]] (fun m x=>qD N m x.1 x.2.1 x.2.2.1) ⟨fun _=>(Sum.inl ()),fun _=>(Sum.inr ()),()⟩ N
def T86(N:Nat):FT:=(86,zL [uR1] [uR1,.bool] fun x=>jO N x.1)::(T88 N)
theorem K86(N:Nat):AT (T86 N):=fnA zq (K88 N) (.two .auto (.two (.cal 5 87 (.two .auto (.two (.cal 6 114 (.two .auto (.two (.two .auto (.one (.by_ (qQ N)))) .auto)) .auto) .auto)) .auto) .auto)) Tryz.func86 (.cons (wC N) .nil)
def zsL(N:Nat):FT:=(115,zL [.u8] [.bool] fun x=>zaS N x.1)::(T86 N)
theorem zvD(N:Nat):AT (zsL N):=fnA zq (K86 N) .auto Tryz.func115 .nil
def T91(N:Nat):FT:=(91,zL [.u8] [.bool] fun x=>za0 N x.1)::(zsL N)
theorem K91(N:Nat):AT (T91 N):=fnA zq (zvD N) .auto Tryz.func91 .nil
def qn(N:Nat):LF:=zw [] ⟨.drop::.str::(.ptr 2 0 1)::dr 4 ((.int .i64)::(.int .i64)::dr 10 []),[.gone,.gone,.cells [(.fn 91 [] [])] 0]⟩ [(.ret,⟨dr 4 ((.cst (.bool false))::dr 14 []),[.gone,.gone,.cells [(.fn 91 [] [])] 0]⟩),(.exit 0,⟨dr 19 [],[.gone,.gone,.cells [(.fn 91 [] [])] 0]⟩)] (lsT [.s,.i,.i] (fun x=>qe N N x.1 x.2.1 x.2.2.1) fun R o κ=>(zn o (fun a15=>κ 0 []) (fun b16=>κ 1 [])))
def qo(N:Nat):LF:=zw [] ⟨.drop::.str::(.ptr 3 0 1)::dr 4 ((.int .i64)::(.int .i64)::dr 10 []),[.gone,.gone,.gone,.cells [(.fn 88 [] [])] 0]⟩ [(.ret,⟨dr 4 ((.cst (.bool false))::dr 14 []),[.gone,.gone,.gone,.cells [(.fn 88 [] [])] 0]⟩),(.exit 0,⟨dr 19 [],[.gone,.gone,.gone,.cells [(.fn 88 [] [])] 0]⟩)] (lsT [.s,.i,.i] (fun x=>qf N N x.1 x.2.1 x.2.2.1) fun R o κ=>(zn o (fun a34=>κ 0 []) (fun b35=>κ 1 [])))
theorem jW(N:Nat):Lp Tryz.f114 [1,0,1,2] (qn N):=zT zq (K91 N) .auto .nil [.s,.i,.i] [[],[]] (fun m x=>qe N m x.1 x.2.1 x.2.2.1) ⟨fun _=>(Sum.inl ()),fun _=>(Sum.inr ()),()⟩ N
theorem jX(N:Nat):Lp Tryz.f114 [1,0,1,2] (qo N):=zT zq (K91 N) .auto .nil [.s,.i,.i] [[],[]] (fun m x=>qf N m x.1 x.2.1 x.2.2.1) ⟨fun _=>(Sum.inl ()),fun _=>(Sum.inr ()),()⟩ N
def T90(N:Nat):FT:=(90,zL [uR1] [uR1,.bool] fun x=>wB N x.1)::(T91 N)
theorem K90(N:Nat):AT (T90 N):=fnA zq (K91 N) (.two .auto (.two (.cal 2 87 (.two .auto (.two (.cal 6 114 (.two .auto (.two (.two .auto (.one (.by_ (qn N)))) .auto)) .auto) .auto)) (.cal 6 87 (.two .auto (.two (.cal 6 114 (.two .auto (.two (.two .auto (.one (.by_ (qo N)))) .auto)) .auto) .auto)) .auto)) .auto)) Tryz.func90 (.cons (jW N) (.cons (jX N) .nil))
def T28(N:Nat):FT:=(28,zL [uR1] [.bool] fun x=>xP N x.1)::(T90 N)
theorem K28(N:Nat):AT (T28 N):=fnA zq (K90 N) .auto Tryz.func28 .nil
def jn(N:Nat):LF:=zw [(3,.str)] ⟨dr 3 ((.gs 0 1)::dr 3 ((.isl .u8)::(.int .i64)::(.int .i64)::dr 13 [])),[.seq .str 1 0 false]⟩ [(.exit 0,⟨dr 3 ((.gs 0 1)::dr 19 []),[.seq .str 1 0 false]⟩)] (lsT [(.l .u8),.i,.i,(.l .str)] (fun x=>jQ N N x.1 x.2.1 x.2.2.1 x.2.2.2.1) fun R o κ=>κ 0 [.l .str o])
theorem kl(N:Nat):Lp Tryz.f50 [1,1,0,1,2] (jn N):=zT zq (K28 N) .auto .nil [(.l .u8),.i,.i,(.l .str)] [[(.l .str)]] (fun m x=>jQ N m x.1 x.2.1 x.2.2.1 x.2.2.2.1) ⟨fun x=>x.1,()⟩ N
def T50(N:Nat):FT:=(50,zL [.u8] [.str] fun x=>xJ N x.1)::(T28 N)
theorem K50(N:Nat):AT (T50 N):=fnA zq (K28 N) (.two .auto (.two .auto (.two (.two .auto (.one (.by_ (jn N)))) .auto))) Tryz.func50 (.cons (kl N) .nil)
def zsC(N:Nat):FT:=(102,zL [uR1] [.str] fun x=>kQ N x.1)::(T50 N)
theorem zvu(N:Nat):AT (zsC N):=fnA zq (K50 N) .auto Tryz.func102 .nil
def zsE(N:Nat):FT:=(104,zL [uR1] [.str] fun x=>ke N x.1)::(zsC N)
theorem zvw(N:Nat):AT (zsE N):=fnA zq (zvu N) .auto Tryz.func104 .nil
def zsG(N:Nat):FT:=(106,zL [uR1] [.str] fun x=>jN N x.1)::(zsE N)
theorem zvy(N:Nat):AT (zsG N):=fnA zq (zvw N) .auto Tryz.func106 .nil
def zsJ(N:Nat):FT:=(109,zL [(.sl .u8)] [(.sl .u8)] fun x=>km N x.1)::(zsG N)
theorem zvB(N:Nat):AT (zsJ N):=fnA zq (zvy N) .auto Tryz.func109 .nil
def zsI(N:Nat):FT:=(108,zL [uR1] [.str] fun x=>qC N x.1)::(zsJ N)
theorem zvA(N:Nat):AT (zsI N):=fnA zq (zvB N) .auto Tryz.func108 .nil
def T79(N:Nat):FT:=(79,zL [uR1] [.str] fun x=>wJ N x.1)::(zsI N)
theorem K79(N:Nat):AT (T79 N):=fnA zq (zvA N) .auto Tryz.func79 .nil
def T49(N:Nat):FT:=(49,zL [uR1] [.str] fun x=>xG N x.1)::(T79 N)
theorem K49(N:Nat):AT (T49 N):=fnA zq (K79 N) .auto Tryz.func49 .nil
def T89(N:Nat):FT:=(89,zL [uR1] [.str] fun x=>xg N x.1)::(T49 N)
theorem K89(N:Nat):AT (T89 N):=fnA zq (K49 N) .auto Tryz.func89 .nil
def T14(N:Nat):FT:=(14,zL [uR1] [(.sl .u8),.bool] fun x=>jt N x.1)::(T89 N)
theorem K14(N:Nat):AT (T14 N):=fnA zq (K89 N) .auto Tryz.func14 .nil
def zH(N:Nat):LF:=zw [] ⟨(.isl .str)::.str::dr 5 ((.int .i64)::(.int .i64)::dr 10 []),[]⟩ [(.ret,⟨dr 4 ((.int .i64)::dr 14 []),[]⟩),(.exit 0,⟨dr 19 [],[]⟩)] (lsT [(.l .str),.s,.i,.i] (fun x=>zz N N x.1 x.2.1 x.2.2.1 x.2.2.2.1) fun R o κ=>(zn o (fun a11=>κ 0 [.i a11]) (fun b12=>κ 1 [])))
theorem qc(N:Nat):Lp Tryz.f32 [1,0,1,2] (zH N):=zT zq (K14 N) .auto .nil [(.l .str),.s,.i,.i] [[.i],[]] (fun m x=>zz N m x.1 x.2.1 x.2.2.1 x.2.2.2.1) ⟨fun x=>(Sum.inl x.1),fun _=>(Sum.inr ()),()⟩ N
def T32(N:Nat):FT:=(32,zL [(.sl .str),.str] [(.int .i64)] fun x=>zD N x.1 x.2.1)::(T14 N)
theorem K32(N:Nat):AT (T32 N):=fnA zq (K14 N) (.two .auto (.two (.two .auto (.one (.by_ (zH N)))) .auto)) Tryz.func32 (.cons (qc N) .nil)
def T19(N:Nat):FT:=(19,zcU (.pair (.sl .u8) (.int .i64)) [] [uR1] fun p x=>zY N p)::(T32 N)
theorem K19(N:Nat):AT (T19 N):=fnP zq (K32 N) .auto Tryz.func19 .nil
def T8(N:Nat):FT:=(8,zL [(.sl .u8),(.int .i64)] [uR1,(.int .i64),.bool] fun x=>qg N x.1 x.2.1)::(T19 N)
theorem K8(N:Nat):AT (T8 N):=fnA zq (K19 N) .auto Tryz.func8 .nil
def js(N:Nat):LF:=zw [] ⟨(.isl .u8)::(.int .i64)::dr 4 ((.int .i64)::dr 31 []),[]⟩ [(.exit 0,⟨(.isl .u8)::(.int .i64)::dr 4 ((.int .i64)::dr 31 []),[]⟩)] (lsT [(.l .u8),.i,.i] (fun x=>jh N N x.1 x.2.1 x.2.2.1) fun R o κ=>κ 0 [.l .u8 o.1,.i o.2.1,.i o.2.2])
theorem kq(N:Nat):Lp Tryz.f39 [1,1,0,2] (js N):=zT zq (K8 N) .auto .nil [(.l .u8),.i,.i] [[(.l .u8),.i,.i]] (fun m x=>jh N m x.1 x.2.1 x.2.2.1) ⟨fun x=>(x.1,x.2.1,x.2.2.1),()⟩ N
def T39(N:Nat):FT:=(39,zL [(.sl .u8),(.int .i64)] [.str,(.int .i64)] fun x=>jU N x.1 x.2.1)::(T8 N)
theorem K39(N:Nat):AT (T39 N):=fnA zq (K8 N) (.two .auto (.two .auto (.two (.one (.by_ (js N))) .auto))) Tryz.func39 (.cons (kq N) .nil)
def jr(N:Nat):LF:=zw [] ⟨(.isl .u8)::(.int .i64)::dr 4 ((.int .i64)::dr 28 []),[]⟩ [(.ret,⟨dr 4 (.str::(.int .i64)::dr 29 []),[]⟩),(.exit 0,⟨dr 35 [],[]⟩)] (lsT [(.l .u8),.i,.i] (fun x=>qj N N x.1 x.2.1 x.2.2.1) fun R o κ=>(zn o (fun a7=>κ 0 [.s a7.1,.i a7.2]) (fun b8=>κ 1 [])))
theorem kp(N:Nat):Lp Tryz.f40 [1,0,1,2] (jr N):=zT zq (K39 N) .auto .nil [(.l .u8),.i,.i] [[.s,.i],[]] (fun m x=>qj N m x.1 x.2.1 x.2.2.1) ⟨fun x=>(Sum.inl (x.1,x.2.1)),fun _=>(Sum.inr ()),()⟩ N
def T40(N:Nat):FT:=(40,zL [(.sl .u8),(.int .i64)] [.str,(.int .i64)] fun x=>jq N x.1 x.2.1)::(T39 N)
theorem K40(N:Nat):AT (T40 N):=fnA zq (K39 N) (.two .auto (.two (.two .auto (.one (.by_ (jr N)))) .auto)) Tryz.func40 (.cons (kp N) .nil)
def qE(N:Nat):LF:=zw [] ⟨(.int .u32)::.drop::.drop::.str::dr 18 [],[]⟩ [(.exit 0,⟨(.int .u32)::.drop::.drop::.str::dr 18 [],[]⟩)] (lsT [.i,.s] (fun x=>ql N N x.1 x.2.1) fun R o κ=>κ 0 [.i o.1,.s o.2])
theorem j5(N:Nat):Lp Tryz.f70 [1,1,0,2] (qE N):=zT zq (K40 N) .auto .nil [.i,.s] [[.i,.s]] (fun m x=>ql N m x.1 x.2.1) ⟨fun x=>(x.1,x.2.1),()⟩ N
def T70(N:Nat):FT:=(70,zL [(.int .u32)] [.str] fun x=>jR N x.1)::(T40 N)
theorem K70(N:Nat):AT (T70 N):=fnA zq (K40 N) (.two .auto (.two .auto (.two (.one (.by_ (qE N))) .auto))) Tryz.func70 (.cons (j5 N) .nil)
def qK(N:Nat):LF:=zw [] ⟨.str::dr 3 ((.int .u64)::(.int .i64)::dr 38 []),[]⟩ [(.ret,⟨.drop::.drop::(.cst (.int .u32 (0:Int)))::(.cst (.bool false))::dr 40 [],[]⟩),(.exit 0,⟨.str::dr 3 ((.int .u64)::dr 39 []),[]⟩)] (lsT [.s,.i,.i] (fun x=>qA N N x.1 x.2.1 x.2.2.1) fun R o κ=>(zn o (fun a8=>κ 0 []) (fun b9=>κ 1 [.s b9.1,.i b9.2])))
theorem wx(N:Nat):Lp Tryz.f41 [1,1,1,0,1,2] (qK N):=zT zq (K70 N) .auto .nil [.s,.i,.i] [[],[.s,.i]] (fun m x=>qA N m x.1 x.2.1 x.2.2.1) ⟨fun _=>(Sum.inl ()),fun x=>(Sum.inr (x.1,x.2.1)),()⟩ N
def T41(N:Nat):FT:=(41,zL [.str] [(.int .u32),.bool] fun x=>jL N x.1)::(T70 N)
theorem K41(N:Nat):AT (T41 N):=fnA zq (K70 N) (.two .auto (.two .auto (.two .auto (.two (.two .auto (.one (.by_ (qK N)))) .auto)))) Tryz.func41 (.cons (wx N) .nil)
def T26(N:Nat):FT:=(26,zL [(.sl .u8),(.int .i64),.str] [.bool] fun x=>zt N x.1 x.2.1 x.2.2.1)::(T41 N)
theorem K26(N:Nat):AT (T26 N):=fnA zq (K41 N) .auto Tryz.func26 .nil
def T75(N:Nat):FT:=(75,zL [(.int .i64)] [.str] fun x=>kA N x.1)::(T26 N)
theorem K75(N:Nat):AT (T75 N):=fnA zq (K26 N) .auto Tryz.func75 .nil
def qY(N:Nat):LF:=zw [] ⟨.str::.drop::.drop::.str::(.int .i64)::dr 24 [],[]⟩ [(.exit 0,⟨dr 3 (.str::dr 25 []),[]⟩)] (lsT [.s,.s,.i] (fun x=>qS N N x.1 x.2.1 x.2.2.1) fun R o κ=>κ 0 [.s o])
theorem wP(N:Nat):Lp Tryz.f148 [1,1,0,1,2] (qY N):=zT zq (K75 N) .auto .nil [.s,.s,.i] [[.s]] (fun m x=>qS N m x.1 x.2.1 x.2.2.1) ⟨fun x=>x.1,()⟩ N
def zsV(N:Nat):FT:=(148,zL [.str] [.str] fun x=>kE N x.1)::(T75 N)
theorem zsy(N:Nat):AT (zsV N):=fnA zq (K75 N) (.two .auto (.two .auto (.two (.two .auto (.one (.by_ (qY N)))) .auto))) Tryz.func148 (.cons (wP N) .nil)
def ja(N:Nat):LF:=zw [] ⟨.str::.drop::.drop::(.int .i64)::dr 11 [],[]⟩ [(.ret,⟨.drop::.drop::(.int .i64)::dr 12 [],[]⟩),(.exit 0,⟨dr 15 [],[]⟩)] (lsT [.s,.i] (fun x=>z6 N N x.1 x.2.1) fun R o κ=>(zn o (fun a19=>κ 0 [.i a19]) (fun b20=>κ 1 [])))
theorem wT(N:Nat):Lp Tryz.f128 [1,0,1,2] (ja N):=zT zq (zsy N) .auto .nil [.s,.i] [[.i],[]] (fun m x=>z6 N m x.1 x.2.1) ⟨fun x=>(Sum.inl x.1),fun _=>(Sum.inr ()),()⟩ N
def zsQ(N:Nat):FT:=(128,zL [.str] [(.int .i64)] fun x=>xd N x.1)::(zsV N)
theorem zsw(N:Nat):AT (zsQ N):=fnA zq (zsy N) (.two .auto (.two (.two .auto (.one (.by_ (ja N)))) .auto)) Tryz.func128 (.cons (wT N) .nil)
def qL(N:Nat):LF:=zw [] ⟨.str::.drop::.drop::(.int .i64)::(.int .i64)::(.int .i64)::(.int .i64)::dr 47 [],[]⟩ [(.ret,⟨.drop::.drop::(.cst (.int .i64 (-1:Int)))::dr 51 [],[]⟩),(.exit 0,⟨dr 4 ((.int .i64)::dr 49 []),[]⟩)] (lsT [.s,.i,.i,.i,.i] (fun x=>qh N N x.1 x.2.1 x.2.2.1 x.2.2.2.1 x.2.2.2.2.1) fun R o κ=>(zn o (fun a22=>κ 0 []) (fun b23=>κ 1 [.i b23])))
theorem wy(N:Nat):Lp Tryz.f100 [1,1,1,1,1,1,0,1,2] (qL N):=zT zq (zsw N) .auto .nil [.s,.i,.i,.i,.i] [[],[.i]] (fun m x=>qh N m x.1 x.2.1 x.2.2.1 x.2.2.2.1 x.2.2.2.2.1) ⟨fun _=>(Sum.inl ()),fun x=>(Sum.inr x.1),()⟩ N
def zsB(N:Nat):FT:=(100,zL [.str] [(.int .i64)] fun x=>wR N x.1)::(zsQ N)
theorem zsu(N:Nat):AT (zsB N):=fnA zq (zsw N) (.two .auto (.two .auto (.two .auto (.two .auto (.two .auto (.two .auto (.two (.two .auto (.one (.by_ (qL N)))) .auto))))))) Tryz.func100 (.cons (wy N) .nil)
def jb(N:Nat):LF:=zw [] ⟨(.isl .u8)::(.int .i64)::dr 4 ((.int .i64)::dr 31 []),[]⟩ [(.exit 0,⟨(.isl .u8)::(.int .i64)::dr 4 ((.int .i64)::dr 31 []),[]⟩)] (lsT [(.l .u8),.i,.i] (fun x=>qT N N x.1 x.2.1 x.2.2.1) fun R o κ=>κ 0 [.l .u8 o.1,.i o.2.1,.i o.2.2])
theorem wW(N:Nat):Lp Tryz.f71 [1,1,0,2] (jb N):=zT zq (zsu N) .auto .nil [(.l .u8),.i,.i] [[(.l .u8),.i,.i]] (fun m x=>qT N m x.1 x.2.1 x.2.2.1) ⟨fun x=>(x.1,x.2.1,x.2.2.1),()⟩ N
def T71(N:Nat):FT:=(71,zL [(.sl .u8),(.int .i64)] [(.int .i64),(.int .i64)] fun x=>j8 N x.1 x.2.1)::(zsB N)
theorem K71(N:Nat):AT (T71 N):=fnA zq (zsu N) (.two .auto (.two .auto (.two (.one (.by_ (jb N))) .auto))) Tryz.func71 (.cons (wW N) .nil)
def qO(N:Nat):LF:=zw [] ⟨(.isl .u8)::(.int .i64)::dr 4 ((.int .i64)::dr 42 []),[]⟩ [(.exit 0,⟨(.isl .u8)::(.int .i64)::dr 4 ((.int .i64)::dr 42 []),[]⟩)] (lsT [(.l .u8),.i,.i] (fun x=>zZ N N x.1 x.2.1 x.2.2.1) fun R o κ=>κ 0 [.l .u8 o.1,.i o.2.1,.i o.2.2])
theorem wA(N:Nat):Lp Tryz.f72 [1,1,0,2] (qO N):=zT zq (K71 N) .auto .nil [(.l .u8),.i,.i] [[(.l .u8),.i,.i]] (fun m x=>zZ N m x.1 x.2.1 x.2.2.1) ⟨fun x=>(x.1,x.2.1,x.2.2.1),()⟩ N
def T72(N:Nat):FT:=(72,zL [(.sl .u8),(.int .i64)] [(.int .u32),(.int .i64)] fun x=>jg N x.1 x.2.1)::(T71 N)
theorem K72(N:Nat):AT (T72 N):=fnA zq (K71 N) (.two .auto (.two .auto (.two (.one (.by_ (qO N))) .auto))) Tryz.func72 (.cons (wA N) .nil)
def z8(N:Nat):LF:=zw [] ⟨(.isl .u8)::(.int .i64)::dr 5 ((.int .i64)::dr 112 []),[]⟩ [(.exit 0,⟨(.isl .u8)::(.int .i64)::dr 5 ((.int .i64)::dr 112 []),[]⟩)] (lsT [(.l .u8),.i,.i] (fun x=>zU N N x.1 x.2.1 x.2.2.1) fun R o κ=>κ 0 [.l .u8 o.1,.i o.2.1,.i o.2.2])
theorem jo(N:Nat):Lp Tryz.f73 [1,1,1,0,2] (z8 N):=zT zq (K72 N) .auto .nil [(.l .u8),.i,.i] [[(.l .u8),.i,.i]] (fun m x=>zU N m x.1 x.2.1 x.2.2.1) ⟨fun x=>(x.1,x.2.1,x.2.2.1),()⟩ N
def T73(N:Nat):FT:=(73,zL [(.sl .u8),(.int .i64)] [(.sl .u8),(.int .i64),.bool] fun x=>z7 N x.1 x.2.1)::(T72 N)
theorem K73(N:Nat):AT (T73 N):=fnA zq (K72 N) (.two .auto (.two .auto (.two .auto (.two (.one (.by_ (z8 N))) .auto)))) Tryz.func73 (.cons (jo N) .nil)
def qm(N:Nat):LF:=zw [] ⟨(.isl .u8)::(.int .i64)::dr 3 ((.ptr 0 0 10)::(.ptr 1 0 10)::dr 96 []),[.cells [(.int .i64),(.int .u32),.str,(.int .i64),.str,(.int .i64),.u8,(.int .u32),(.int .u32),(.isl .u8)] 0,.cells [(.cst (.int .i64 (0:Int))),(.cst (.int .u32 (0:Int))),(.cst (.str ([]:List UInt8))),(.cst (.int .i64 (0:Int))),(.cst (.str ([]:List UInt8))),(.cst (.int .i64 (0:Int))),.u8,(.cst (.int .u32 (0:Int))),(.cst (.int .u32 (0:Int))),(.cst .jZ)] 0]⟩ [(.ret,⟨dr 6 ((.ptr 1 0 10)::dr 96 []),[.cells [(.int .i64),(.int .u32),.str,(.int .i64),.str,(.int .i64),.u8,(.int .u32),(.int .u32),(.isl .u8)] 0,.cells [(.int .i64),(.int .u32),.str,(.int .i64),.str,(.int .i64),.u8,(.int .u32),(.int .u32),(.isl .u8)] 0]⟩),(.ret,⟨dr 6 ((.ptr 1 0 10)::dr 96 []),[.cells [(.int .i64),(.int .u32),.str,(.int .i64),.str,(.int .i64),.u8,(.int .u32),(.int .u32),(.isl .u8)] 0,.cells [(.cst (.int .i64 (0:Int))),(.cst (.int .u32 (0:Int))),(.cst (.str ([]:List UInt8))),(.cst (.int .i64 (0:Int))),(.cst (.str ([]:List UInt8))),(.cst (.int .i64 (0:Int))),.u8,(.cst (.int .u32 (0:Int))),(.cst (.int .u32 (0:Int))),(.cst .jZ)] 0]⟩)] (lsT [(.l .u8),.i,.i,.i,.s,.i,.s,.i,.c,.i,.i,(.l .u8),.c] (fun x=>zF N N x.1 x.2.1 x.2.2.1 x.2.2.2.1 x.2.2.2.2.1 x.2.2.2.2.2.1 x.2.2.2.2.2.2.1 x.2.2.2.2.2.2.2.1 x.2.2.2.2.2.2.2.2.1 x.2.2.2.2.2.2.2.2.2.1 x.2.2.2.2.2.2.2.2.2.2.1 x.2.2.2.2.2.2.2.2.2.2.2.1 x.2.2.2.2.2.2.2.2.2.2.2.2.1) fun R o κ=>(zn o (fun a68=>κ 0 [.i a68.1,.i a68.2.1,.s a68.2.2.1,.i a68.2.2.2.1,.s a68.2.2.2.2.1,.i a68.2.2.2.2.2.1,.c a68.2.2.2.2.2.2.1,.i a68.2.2.2.2.2.2.2.1,.i a68.2.2.2.2.2.2.2.2.1,.l .u8 a68.2.2.2.2.2.2.2.2.2.1,.i a68.2.2.2.2.2.2.2.2.2.2.1,.i a68.2.2.2.2.2.2.2.2.2.2.2.1,.s a68.2.2.2.2.2.2.2.2.2.2.2.2.1,.i a68.2.2.2.2.2.2.2.2.2.2.2.2.2.1,.s a68.2.2.2.2.2.2.2.2.2.2.2.2.2.2.1,.i a68.2.2.2.2.2.2.2.2.2.2.2.2.2.2.2.1,.c a68.2.2.2.2.2.2.2.2.2.2.2.2.2.2.2.2.1,.i a68.2.2.2.2.2.2.2.2.2.2.2.2.2.2.2.2.2.1,.i a68.2.2.2.2.2.2.2.2.2.2.2.2.2.2.2.2.2.2.1,.l .u8 a68.2.2.2.2.2.2.2.2.2.2.2.2.2.2.2.2.2.2.2]) (fun b69=>κ 1 [.i b69.1,.i b69.2.1,.s b69.2.2.1,.i b69.2.2.2.1,.s b69.2.2.2.2.1,.i b69.2.2.2.2.2.1,.c b69.2.2.2.2.2.2.1,.i b69.2.2.2.2.2.2.2.1,.i b69.2.2.2.2.2.2.2.2.1,.l .u8 b69.2.2.2.2.2.2.2.2.2.1,.c b69.2.2.2.2.2.2.2.2.2.2])))
theorem jT(N:Nat):Lp Tryz.f42 [1,2] (qm N):=zT zq (K73 N) .auto .nil [(.l .u8),.i,.i,.i,.s,.i,.s,.i,.c,.i,.i,(.l .u8),.c] [[.i,.i,.s,.i,.s,.i,.c,.i,.i,(.l .u8),.i,.i,.s,.i,.s,.i,.c,.i,.i,(.l .u8)],[.i,.i,.s,.i,.s,.i,.c,.i,.i,(.l .u8),.c]] (fun m x=>zF N m x.1 x.2.1 x.2.2.1 x.2.2.2.1 x.2.2.2.2.1 x.2.2.2.2.2.1 x.2.2.2.2.2.2.1 x.2.2.2.2.2.2.2.1 x.2.2.2.2.2.2.2.2.1 x.2.2.2.2.2.2.2.2.2.1 x.2.2.2.2.2.2.2.2.2.2.1 x.2.2.2.2.2.2.2.2.2.2.2.1 x.2.2.2.2.2.2.2.2.2.2.2.2.1) ⟨fun x=>(Sum.inl (x.1,x.2.1,x.2.2.1,x.2.2.2.1,x.2.2.2.2.1,x.2.2.2.2.2.1,x.2.2.2.2.2.2.1,x.2.2.2.2.2.2.2.1,x.2.2.2.2.2.2.2.2.1,x.2.2.2.2.2.2.2.2.2.1,x.2.2.2.2.2.2.2.2.2.2.1,x.2.2.2.2.2.2.2.2.2.2.2.1,x.2.2.2.2.2.2.2.2.2.2.2.2.1,x.2.2.2.2.2.2.2.2.2.2.2.2.2.1,x.2.2.2.2.2.2.2.2.2.2.2.2.2.2.1,x.2.2.2.2.2.2.2.2.2.2.2.2.2.2.2.1,x.2.2.2.2.2.2.2.2.2.2.2.2.2.2.2.2.1,x.2.2.2.2.2.2.2.2.2.2.2.2.2.2.2.2.2.1,x.2.2.2.2.2.2.2.2.2.2.2.2.2.2.2.2.2.2.1,x.2.2.2.2.2.2.2.2.2.2.2.2.2.2.2.2.2.2.2.1)),fun x=>(Sum.inr (x.1,x.2.1,x.2.2.1,x.2.2.2.1,x.2.2.2.2.1,x.2.2.2.2.2.1,x.2.2.2.2.2.2.1,x.2.2.2.2.2.2.2.1,x.2.2.2.2.2.2.2.2.1,x.2.2.2.2.2.2.2.2.2.1,x.2.2.2.2.2.2.2.2.2.2.1)),()⟩ N
def T42(N:Nat):FT:=(42,zL [(.sl .u8),(.int .i64),uR1] [uR1] fun x=>jf N x.1 x.2.1 x.2.2.1)::(T73 N)
theorem K42(N:Nat):AT (T42 N):=fnA zq (K73 N) (.two .auto (.one (.by_ (qm N)))) Tryz.func42 (.cons (jT N) .nil)
def qN(N:Nat):LF:=zw [] ⟨.drop::.drop::(.ptr 0 0 10)::.str::.drop::.str::.drop::.str::dr 3 ((.int .i64)::dr 93 []),[.cells [(.cst (.int .i64 (0:Int))),(.cst (.int .u32 (0:Int))),(.cst (.str ([]:List UInt8))),(.cst (.int .i64 (0:Int))),(.cst (.str ([]:List UInt8))),(.cst (.int .i64 (0:Int))),.u8,(.cst (.int .u32 (0:Int))),(.cst (.int .u32 (0:Int))),(.cst .jZ)] 0]⟩ [(.ret,⟨.drop::.drop::(.ptr 0 0 10)::dr 102 [],[.cells [(.cst (.int .i64 (9:Int))),(.cst (.int .u32 (0:Int))),.str,(.int .i64),.str,(.cst (.int .i64 (0:Int))),.u8,(.cst (.int .u32 (0:Int))),(.cst (.int .u32 (0:Int))),(.cst .jZ)] 0]⟩),(.exit 0,⟨.drop::.drop::(.ptr 0 0 10)::dr 102 [],[.cells [(.cst (.int .i64 (0:Int))),(.cst (.int .u32 (0:Int))),(.cst (.str ([]:List UInt8))),(.cst (.int .i64 (0:Int))),(.cst (.str ([]:List UInt8))),(.cst (.int .i64 (0:Int))),.u8,(.cst (.int .u32 (0:Int))),(.cst (.int .u32 (0:Int))),(.cst .jZ)] 0]⟩)] (lsT [.s,.s,.s,.i,.c] (fun x=>qB N N x.1 x.2.1 x.2.2.1 x.2.2.2.1 x.2.2.2.2.1) fun R o κ=>(zn o (fun a20=>κ 0 [.s a20.1,.i a20.2.1,.s a20.2.2.1,.c a20.2.2.2]) (fun b21=>κ 1 [.c b21])))
theorem wz(N:Nat):Lp Tryz.f25 [1,1,1,1,1,1,0,1,0,0,1,2] (qN N):=zT zq (K42 N) .auto .nil [.s,.s,.s,.i,.c] [[.s,.i,.s,.c],[.c]] (fun m x=>qB N m x.1 x.2.1 x.2.2.1 x.2.2.2.1 x.2.2.2.2.1) ⟨fun x=>(Sum.inl (x.1,x.2.1,x.2.2.1,x.2.2.2.1)),fun x=>(Sum.inr x.1),()⟩ N
def T25(N:Nat):FT:=(25,zL [(.sl .u8)] [uR1] fun x=>jM N x.1)::(T42 N)
theorem K25(N:Nat):AT (T25 N):=fnA zq (K42 N) (.two .auto (.two .auto (.two .auto (.two .auto (.two .auto (.two .auto (.two (.two .auto (.two (.two (.two .auto (.one (.by_ (qN N)))) .auto) .auto)) .auto))))))) Tryz.func25 (.cons (wz N) .nil)
def T10(N:Nat):FT:=(10,zL [uR1,uR1] [.bool] fun x=>zb N x.1 x.2.1)::(T25 N)
theorem K10(N:Nat):AT (T10 N):=fnA zq (K25 N) .auto Tryz.func10 .nil
def T54(N:Nat):FT:=(54,zL [.u8] [.bool] fun x=>k9 N x.1)::(T10 N)
theorem K54(N:Nat):AT (T54 N):=fnA zq (K10 N) .auto Tryz.func54 .nil
def qJ(N:Nat):LF:=zw [] ⟨.str::.drop::.drop::(.int .i64)::dr 13 [],[]⟩ [(.ret,⟨.drop::.drop::(.cst (.bool false))::dr 14 [],[]⟩),(.exit 0,⟨.str::dr 16 [],[]⟩)] (lsT [.s,.i] (fun x=>qz N N x.1 x.2.1) fun R o κ=>(zn o (fun a10=>κ 0 []) (fun b11=>κ 1 [.s b11])))
theorem wv(N:Nat):Lp Tryz.f30 [1,0,1,2] (qJ N):=zT zq (K54 N) .auto .nil [.s,.i] [[],[.s]] (fun m x=>qz N m x.1 x.2.1) ⟨fun _=>(Sum.inl ()),fun x=>(Sum.inr x.1),()⟩ N
def T30(N:Nat):FT:=(30,zL [.str] [.bool] fun x=>zv N x.1)::(T54 N)
theorem K30(N:Nat):AT (T30 N):=fnA zq (K54 N) (.two .auto (.two (.two .auto (.one (.by_ (qJ N)))) .auto)) Tryz.func30 (.cons (wv N) .nil)
def T92(N:Nat):FT:=(92,zL [.u8] [.bool] fun x=>zbB N x.1)::(T30 N)
theorem K92(N:Nat):AT (T92 N):=fnA zq (K30 N) .auto Tryz.func92 .nil
def T55(N:Nat):FT:=(55,zL [.u8] [.bool] fun x=>xK N x.1)::(T92 N)
theorem K55(N:Nat):AT (T55 N):=fnA zq (K92 N) .auto Tryz.func55 .nil
def qX(N:Nat):LF:=zw [] ⟨.str::.drop::.drop::(.int .i64)::dr 13 [],[]⟩ [(.ret,⟨.drop::.drop::(.cst (.bool false))::dr 14 [],[]⟩),(.exit 0,⟨.str::dr 16 [],[]⟩)] (lsT [.s,.i] (fun x=>qR N N x.1 x.2.1) fun R o κ=>(zn o (fun a10=>κ 0 []) (fun b11=>κ 1 [.s b11])))
theorem wO(N:Nat):Lp Tryz.f31 [1,0,1,2] (qX N):=zT zq (K55 N) .auto .nil [.s,.i] [[],[.s]] (fun m x=>qR N m x.1 x.2.1) ⟨fun _=>(Sum.inl ()),fun x=>(Sum.inr x.1),()⟩ N
def T31(N:Nat):FT:=(31,zL [.str] [.bool] fun x=>qb N x.1)::(T55 N)
theorem K31(N:Nat):AT (T31 N):=fnA zq (K55 N) (.two .auto (.two (.two .auto (.one (.by_ (qX N)))) .auto)) Tryz.func31 (.cons (wO N) .nil)
def T16(N:Nat):FT:=(16,zL [uR1] [.bool] fun x=>j7 N x.1)::(T31 N)
theorem K16(N:Nat):AT (T16 N):=fnA zq (K31 N) .auto Tryz.func16 .nil
def T43(N:Nat):FT:=(43,zL [(.int .u32)] [.str] fun x=>jl N x.1)::(T16 N)
theorem K43(N:Nat):AT (T43 N):=fnA zq (K16 N) .auto Tryz.func43 .nil
def qZ(N:Nat):LF:=zw [] ⟨(.int .i64)::.drop::.drop::.str::(.int .i64)::dr 19 [],[]⟩ [(.exit 0,⟨dr 3 (.str::dr 20 []),[]⟩)] (lsT [.i,.s,.i] (fun x=>jE N N x.1 x.2.1 x.2.2.1) fun R o κ=>κ 0 [.s o])
theorem wQ(N:Nat):Lp Tryz.f45 [1,1,0,1,2] (qZ N):=zT zq (K43 N) .auto .nil [.i,.s,.i] [[.s]] (fun m x=>jE N m x.1 x.2.1 x.2.2.1) ⟨fun x=>x.1,()⟩ N
def T45(N:Nat):FT:=(45,zL [(.int .i64)] [.str] fun x=>kz N x.1)::(T43 N)
theorem K45(N:Nat):AT (T45 N):=fnA zq (K43 N) (.two .auto (.two .auto (.two (.two .auto (.one (.by_ (qZ N)))) .auto))) Tryz.func45 (.cons (wQ N) .nil)
def T74(N:Nat):FT:=(74,zL [(.sl .u8)] [(.sl .u8)] fun x=>qi N x.1)::(T45 N)
theorem K74(N:Nat):AT (T74 N):=fnA zq (K45 N) .auto Tryz.func74 .nil
def T44(N:Nat):FT:=(44,zL [uR1] [.str] fun x=>xr N x.1)::(T74 N)
theorem K44(N:Nat):AT (T44 N):=fnA zq (K74 N) .auto Tryz.func44 .nil
def T27(N:Nat):FT:=(27,zL [uR1] [.str] fun x=>wU N x.1)::(T44 N)
theorem K27(N:Nat):AT (T27 N):=fnA zq (K44 N) .auto Tryz.func27 .nil
def T9(N:Nat):FT:=(9,zL [(.sl .u8),(.int .i64)] [uR1,(.int .i64),.bool] fun x=>wV N x.1 x.2.1)::(T27 N)
theorem K9(N:Nat):AT (T9 N):=fnA zq (K27 N) .auto Tryz.func9 .nil
def kr(N:Nat):LF:=zw [(4,uR1)] ⟨(.isl .u8)::dr 3 ((.gs 0 1)::(.int .i64)::dr 19 []),[.seq uR1 1 0 false]⟩ [(.ret,⟨.drop::.drop::(.gs 0 1)::(.int .i64)::dr 21 [],[.seq uR1 1 0 false]⟩)] (lsT [(.l .u8),.i,(.l uR1)] (fun x=>qv N N x.1 x.2.1 x.2.2.1) fun R o κ=>κ 0 [.i o.1,.l uR1 o.2])
theorem zaj(N:Nat):Lp Tryz.f11 [1,1,1,2] (kr N):=zT zq (K9 N) .auto .nil [(.l .u8),.i,(.l uR1)] [[.i,(.l uR1)]] (fun m x=>qv N m x.1 x.2.1 x.2.2.1) ⟨fun x=>(x.1,x.2.1),()⟩ N
def T11(N:Nat):FT:=(11,zL [(.sl .u8)] [(.sl uR1),(.int .i64)] fun x=>zai N x.1)::(T9 N)
theorem K11(N:Nat):AT (T11 N):=fnA zq (K9 N) (.two .auto (.two .auto (.two .auto (.one (.by_ (kr N)))))) Tryz.func11 (.cons (zaj N) .nil)
def ko(N:Nat):LF:=zw [(4,uR1)] ⟨(.isl .u8)::dr 3 ((.gs 0 1)::(.int .i64)::dr 19 []),[.seq uR1 1 0 false]⟩ [(.ret,⟨.drop::.drop::(.gs 0 1)::(.int .i64)::dr 21 [],[.seq uR1 1 0 false]⟩)] (lsT [(.l .u8),.i,(.l uR1)] (fun x=>je N N x.1 x.2.1 x.2.2.1) fun R o κ=>κ 0 [.i o.1,.l uR1 o.2])
theorem zah(N:Nat):Lp Tryz.f12 [1,1,1,2] (ko N):=zT zq (K11 N) .auto .nil [(.l .u8),.i,(.l uR1)] [[.i,(.l uR1)]] (fun m x=>je N m x.1 x.2.1 x.2.2.1) ⟨fun x=>(x.1,x.2.1),()⟩ N
def T12(N:Nat):FT:=(12,zL [(.sl .u8)] [(.sl uR1),(.int .i64)] fun x=>zcr N x.1)::(T11 N)
theorem K12(N:Nat):AT (T12 N):=fnA zq (K11 N) (.two .auto (.two .auto (.two .auto (.one (.by_ (ko N)))))) Tryz.func12 (.cons (zah N) .nil)
def jS(N:Nat):LF:=zw [] ⟨(.isl uR1)::(.isl uR1)::dr 3 ((.int .i64)::dr 21 []),[]⟩ [(.ret,⟨dr 4 ((.cst (.bool false))::dr 22 []),[]⟩),(.exit 0,⟨dr 27 [],[]⟩)] (lsT [(.l uR1),(.l uR1),.i] (fun x=>qM N N x.1 x.2.1 x.2.2.1) fun R o κ=>(zn o (fun a12=>κ 0 []) (fun b13=>κ 1 [])))
theorem xe(N:Nat):Lp Tryz.f13 [1,1,0,1,2] (jS N):=zT zq (K12 N) .auto .nil [(.l uR1),(.l uR1),.i] [[],[]] (fun m x=>qM N m x.1 x.2.1 x.2.2.1) ⟨fun _=>(Sum.inl ()),fun _=>(Sum.inr ()),()⟩ N
def T13(N:Nat):FT:=(13,zL [(.sl uR1),(.sl uR1)] [.bool] fun x=>wI N x.1 x.2.1)::(T12 N)
theorem K13(N:Nat):AT (T13 N):=fnA zq (K12 N) (.two .auto (.two .auto (.two (.two .auto (.one (.by_ (jS N)))) .auto))) Tryz.func13 (.cons (xe N) .nil)
def zcK(N:Nat):LF:=zw [] ⟨(.isl uR1)::.drop::.drop::(.int .i64)::dr 34 [],[]⟩ [(.ret,⟨.drop::.drop::(.cst (.bool false))::dr 35 [],[]⟩),(.exit 0,⟨(.isl uR1)::dr 37 [],[]⟩)] (lsT [(.l uR1),.i] (fun x=>kd N N x.1 x.2.1) fun R o κ=>(zn o (fun a7=>κ 0 []) (fun b8=>κ 1 [.l uR1 b8])))
theorem zgr(N:Nat):Lp Tryz.f17 [1,0,1,2] (zcK N):=zT zq (K13 N) .auto .nil [(.l uR1),.i] [[],[(.l uR1)]] (fun m x=>kd N m x.1 x.2.1) ⟨fun _=>(Sum.inl ()),fun x=>(Sum.inr x.1),()⟩ N
def T17(N:Nat):FT:=(17,zL [(.sl uR1)] [.bool] fun x=>zcq N x.1)::(T13 N)
theorem K17(N:Nat):AT (T17 N):=fnA zq (K13 N) (.two .auto (.two (.two .auto (.one (.by_ (zcK N)))) .auto)) Tryz.func17 (.cons (zgr N) .nil)
def zcM(N:Nat):LF:=zw [(3,.u8)] ⟨dr 3 ((.gs 0 1)::dr 4 ((.isl uR1)::(.int .i64)::(.int .i64)::dr 13 [])),[.seq .u8 1 0 false]⟩ [(.exit 0,⟨dr 3 ((.gs 0 1)::dr 20 []),[.seq .u8 1 0 false]⟩)] (lsT [(.l uR1),.i,.i,(.l .u8)] (fun x=>kO N N x.1 x.2.1 x.2.2.1 x.2.2.2.1) fun R o κ=>κ 0 [.l .u8 o])
theorem zgs(N:Nat):Lp Tryz.f18 [1,1,0,1,2] (zcM N):=zT zq (K17 N) .auto .nil [(.l uR1),.i,.i,(.l .u8)] [[(.l .u8)]] (fun m x=>kO N m x.1 x.2.1 x.2.2.1 x.2.2.2.1) ⟨fun x=>x.1,()⟩ N
def T18(N:Nat):FT:=(18,zL [(.sl uR1)] [(.sl .u8)] fun x=>zfc N x.1)::(T17 N)
theorem K18(N:Nat):AT (T18 N):=fnA zq (K17 N) (.two .auto (.two .auto (.two (.two .auto (.one (.by_ (zcM N)))) .auto))) Tryz.func18 (.cons (zgs N) .nil)
def xy(N:Nat):LF:=zw [(6,uR1)] ⟨dr 3 ((.isl .u8)::(.isl uR1)::(.int .i64)::(.gs 0 1)::dr 13 ((.isl uR1)::(.int .i64)::(.int .i64)::dr 22 [])),[.seq uR1 1 0 false]⟩ [(.exit 0,⟨dr 3 ((.isl .u8)::(.isl uR1)::(.int .i64)::(.gs 0 1)::dr 38 []),[.seq uR1 1 0 false]⟩)] (lsT [(.l .u8),(.l uR1),.i,(.l uR1),.i,.i,(.l uR1)] (fun x=>qF N N x.1 x.2.1 x.2.2.1 x.2.2.2.1 x.2.2.2.2.1 x.2.2.2.2.2.1 x.2.2.2.2.2.2.1) fun R o κ=>κ 0 [.l .u8 o.1,.l uR1 o.2.1,.i o.2.2.1,.l uR1 o.2.2.2])
theorem zbv(N:Nat):Lp Tryz.f6 [1,1,1,1,1,0,1,2] (xy N):=zT zq (K18 N) .auto .nil [(.l .u8),(.l uR1),.i,(.l uR1),.i,.i,(.l uR1)] [[(.l .u8),(.l uR1),.i,(.l uR1)]] (fun m x=>qF N m x.1 x.2.1 x.2.2.1 x.2.2.2.1 x.2.2.2.2.1 x.2.2.2.2.2.1 x.2.2.2.2.2.2.1) ⟨fun x=>(x.1,x.2.1,x.2.2.1,x.2.2.2.1),()⟩ N
def kC(N:Nat):FT:=(T18 N)
theorem zcp(N:Nat):znI Tryz.prog glA (ze2 (kC N)) hkA:=ztb zq rfl (K18 N)
def kD(N:Nat):Pl:=(.two .auto (.two .auto (.two .auto (.two .auto (.two .auto (.two (.two .auto (.one (.by_ (xy N)))) .auto))))))
theorem zcQ(N:Nat)(x:El (zbQ [(.sl uR1)])):zaL Tryz.prog glA (ze2 (kC N)) 1500 (kD N) 6 (kL [(.sl uR1)] x) [] (zdj [.bool])=jB N x.1:=by kernel_rfl
theorem zcP(N:Nat):∀ fn b,Tryz.prog.funcs[6]?=some fn->fn.body=some b->zb3 Tryz.prog glA hkA (kD N) b:=zfD Tryz.func6 (by kernel_rfl) (.cons (zbv N) .nil)
end Go.Proofs.YtljnndccimlnlaaGreatDoor
