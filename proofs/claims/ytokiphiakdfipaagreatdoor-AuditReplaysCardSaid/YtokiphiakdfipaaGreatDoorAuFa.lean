/- The functions of the law: their models, and that the program does what they say. -/
import Derived.Test.YtokiphiakdfipaaGreatDoorAuHp
import Derived.Test.YtokiphiakdfipaaGreatDoorAm
import Derived.Test.YtokiphiakdfipaaGreatDoorB5
set_option linter.unusedVariables false
set_option linter.unusedSimpArgs false
set_option maxRecDepth 100000
namespace Go.Proofs.YtokiphiakdfipaaGreatDoor
open Go.Proofs.Model Go Go.Gx Go.Mx Go.Sx
def hkA:jX:=qG (qG (qG (qG (qG (zn2 tab) 4 zr1) 49 zec) 66 zjV) 116 zgZ) 136 (zih 9)
theorem zX:zqF Tryz.prog hkA [136,116,66,49,4]:=zea (zea (zea (zea (zea (zqX (by kernel_rfl)) 4 zr1) 49 _) 66 _) 116 _) 136 _
abbrev AT(T:FT):Prop:=zmc Tryz.prog glA hkA T
abbrev Lp(fn:Func)(p:List Nat)(g:LF):Prop:=zob Tryz.prog glA hkA (.loop (roundOf fn p)) g
def T0:FT:=[(4,qS [] [.bool] fun _=>some (true,())),(49,zoN),(66,ztr),(116,zpl),(136,zp2),(119,zmv),(181,zou),(188,zmv)]
theorem K0:zmc Tryz.prog glA hkA T0:=⟨zqt rfl,zjT rfl,zlx rfl,zku rfl,zkN rfl,zfw rfl,zjJ rfl,zfw rfl,trivial⟩
def T46(N:Nat):FT:=(46,zmo (.pair (.sl .u8) (.int .i64)) [] [(.sl .u8)] fun p x=>zg N p)::T0
theorem K46(N:Nat):AT (T46 N):=fnP zX K0 .auto Tryz.func46 .nil
def T50(N:Nat):FT:=(50,qS [(.sl .u8),(.sl .u8)] [.bool] fun x=>zbQ N x.1 x.2.1)::(T46 N)
theorem K50(N:Nat):AT (T50 N):=fnA zX (K46 N) .auto Tryz.func50 .nil
def T31(N:Nat):FT:=(31,qS [(.sl .u8),(.sl .u8)] [.bool] fun x=>zj N x.1 x.2.1)::(T50 N)
theorem K31(N:Nat):AT (T31 N):=fnA zX (K50 N) .auto Tryz.func31 .nil
def T27(N:Nat):FT:=(27,zmo (.pair (.sl .u8) (.int .i64)) [.str] [.bool] fun p x=>za N p x.1)::(T31 N)
theorem K27(N:Nat):AT (T27 N):=fnP zX (K31 N) .auto Tryz.func27 .nil
def T30(N:Nat):FT:=(30,zmo (.pair (.sl .u8) (.int .i64)) [.str] [.str,.bool] fun p x=>zw N p x.1)::(T27 N)
theorem K30(N:Nat):AT (T30 N):=fnP zX (K27 N) .auto Tryz.func30 .nil
def zxI(N:Nat):FT:=(147,qS [(.sl .u8)] [(.int .i32),(.int .i64)] fun x=>qa N x.1)::(T30 N)
theorem zxl(N:Nat):AT (zxI N):=fnA zX (K30 N) .auto Tryz.func147 .nil
def jy(N:Nat):LF:=zY [] ⟨(.isl .u8)::dr 5 ((.isl .u8)::(.int .i64)::(.cst (.int .i64 (0:Int)))::dr 13 []),[]⟩ [(.ret,⟨.drop::.drop::(.int .i32)::(.cst (.int .i64 (1:Int)))::dr 18 [],[]⟩),(.exit 0,⟨(.isl .u8)::dr 21 [],[]⟩)] (lsT [(.l .u8),(.l .u8),.i] (fun x=>zH N N x.1 x.2.1 x.2.2.1) fun R o κ=>(zv o (fun a7=>κ 0 [.i a7]) (fun b8=>κ 1 [.l .u8 b8])))
theorem xj(N:Nat):Lp Tryz.f130 [1,0,1,2] (jy N):=jv zX (zxl N) .auto .nil [(.l .u8),(.l .u8),.i] [[.i],[(.l .u8)]] (fun m x=>zH N m x.1 x.2.1 x.2.2.1) ⟨fun x=>(Sum.inl x.1),fun x=>(Sum.inr x.1),()⟩ N
def zxB(N:Nat):FT:=(130,qS [(.sl .u8)] [(.int .i32),(.int .i64)] fun x=>zF N x.1)::(zxI N)
theorem zye(N:Nat):AT (zxB N):=fnA zX (zxl N) (.two .auto (.two (.two .auto (.one (.by_ (jy N)))) .auto)) Tryz.func130 (.cons (xj N) .nil)
def T81(N:Nat):FT:=(81,qS [(.int .i32)] [.bool] fun x=>z7 N x.1)::(zxB N)
theorem K81(N:Nat):AT (T81 N):=fnA zX (zye N) .auto Tryz.func81 .nil
def zxG(N:Nat):FT:=(141,qS [(.int .i64)] [.str] fun x=>ke N x.1)::(T81 N)
theorem zyg(N:Nat):AT (zxG N):=fnA zX (K81 N) .auto Tryz.func141 .nil
def zxO(N:Nat):FT:=(163,qS [(.int .u64)] [(.int .i64)] fun x=>wh N x.1)::(zxG N)
theorem zyl(N:Nat):AT (zxO N):=fnA zX (zyg N) .auto Tryz.func163 .nil
def zxN(N:Nat):FT:=(162,qS [(.int .i64)] [(.int .i64)] fun x=>wH N x.1)::(zxO N)
theorem zyk(N:Nat):AT (zxN N):=fnA zX (zyl N) .auto Tryz.func162 .nil
def zxP(N:Nat):FT:=(164,qS [.bool] [(.int .i64)] fun x=>wG N x.1)::(zxN N)
theorem zym(N:Nat):AT (zxP N):=fnA zX (zyk N) .auto Tryz.func164 .nil
def zxH(N:Nat):FT:=(142,qS [(.int .u64)] [(.int .i64)] fun x=>zA N x.1)::(zxP N)
theorem zxk(N:Nat):AT (zxH N):=fnA zX (zym N) .auto Tryz.func142 .nil
def zaa(N:Nat):LF:=zY [] ⟨(.sl 0 0 false)::(.int .u64)::.drop::.drop::(.int .i64)::dr 162 [],[.seq .u8 0 0 true]⟩ [(.exit 0,⟨(.sl 0 0 false)::(.int .u64)::.drop::.drop::(.int .i64)::dr 162 [],[.seq .u8 0 0 true]⟩)] (lsT [.n,.n,.i,.i,(.l .u8)] (fun x=>zf N N x.1 x.2.1 x.2.2.1 x.2.2.2.1 x.2.2.2.2.1) fun R o κ=>κ 0 [.n o.1,.n o.2.1,.i o.2.2.1,.i o.2.2.2.1,.l .u8 o.2.2.2.2])
theorem zdh(N:Nat):Lp Tryz.f143 [1,0,2] (zaa N):=jv zX (zxk N) .auto .nil [.n,.n,.i,.i,(.l .u8)] [[.n,.n,.i,.i,(.l .u8)]] (fun m x=>zf N m x.1 x.2.1 x.2.2.1 x.2.2.2.1 x.2.2.2.2.1) ⟨fun x=>(x.1,x.2.1,x.2.2.1,x.2.2.2.1,x.2.2.2.2.1),()⟩ N
def T62(N:Nat):FT:=(62,qS [(.int .u32)] [.str] fun x=>ze N x.1)::(zxH N)
theorem K62(N:Nat):AT (T62 N):=fnA zX (zxk N) (.two .auto (.two (.cal 2 99 (.two .auto (.two (.cal 2 123 (.two .auto (.two (.two .auto (.two (.two .auto (.two .auto (.two .auto (.two (.cal 3 143 (.two .auto (.two (.one (.by_ (zaa N))) .auto)) .auto) .auto)))) .auto)) .auto)) .auto) .auto)) .auto) .auto)) Tryz.func62 (.cons (zdh N) .nil)
def T82(N:Nat):FT:=(82,qS [.str] [(.int .u32),.bool] fun x=>qZ N x.1)::(T62 N)
theorem K82(N:Nat):AT (T82 N):=fnA zX (K62 N) .auto Tryz.func82 .nil
def wm(N:Nat):LF:=zY [] ⟨(.isl .u8)::(.fn 81 [] [])::(.cst (.bool true))::dr 4 ((.int .i64)::dr 22 []),[.gone,.gone]⟩ [(.ret,⟨dr 6 ((.int .i64)::dr 23 []),[.gone,.gone]⟩),(.exit 0,⟨dr 30 [],[.gone,.gone]⟩)] (lsT [(.l .u8),.i] (fun x=>zp N N x.1 x.2.1) fun R o κ=>(zv o (fun a14=>κ 0 [.i a14]) (fun b15=>κ 1 [])))
def j6(N:Nat):LF:=zY [] ⟨(.isl .u8)::(.fn 81 [] [])::(.cst (.bool true))::dr 4 ((.int .i64)::dr 22 []),[.gone,.gone]⟩ [(.ret,⟨dr 6 ((.int .i64)::dr 23 []),[.gone,.gone]⟩),(.exit 0,⟨dr 30 [],[.gone,.gone]⟩)] (lsT [(.l .u8),.i] (fun x=>zB N N x.1 x.2.1) fun R o κ=>(zv o (fun a32=>κ 0 [.i a32]) (fun b33=>κ 1 [])))
theorem zaK(N:Nat):Lp Tryz.f115 [1,1,0,2] (wm N):=jv zX (K82 N) .auto .nil [(.l .u8),.i] [[.i],[]] (fun m x=>zp N m x.1 x.2.1) ⟨fun x=>(Sum.inl x.1),fun _=>(Sum.inr ()),()⟩ N
theorem zao(N:Nat):Lp Tryz.f115 [1,1,0,2] (j6 N):=jv zX (K82 N) .auto .nil [(.l .u8),.i] [[.i],[]] (fun m x=>zB N m x.1 x.2.1) ⟨fun x=>(Sum.inl x.1),fun _=>(Sum.inr ()),()⟩ N
def T47(N:Nat):FT:=(47,zmo (.pair (.sl .u8) (.int .i64)) [] [(.int .u32),.bool] fun p x=>zn N p)::(T82 N)
theorem K47(N:Nat):AT (T47 N):=fnP zX (K82 N) (.two .auto (.two .auto (.two .auto (.two (.cal 2 79 (.two .auto (.two (.cal 1 80 (.two .auto (.two (.cal 2 115 (.two .auto (.two .auto (.two (.one (.by_ (wm N))) .auto))) .auto) .auto)) .auto) .auto)) .auto) (.two (.two .auto (.two (.cal 5 79 (.two .auto (.two (.cal 1 80 (.two .auto (.two (.cal 2 115 (.two .auto (.two .auto (.two (.one (.by_ (j6 N))) .auto))) .auto) .auto)) .auto) .auto)) .auto) .auto)) .auto))))) Tryz.func47 (.cons (zaK N) (.cons (zao N) .nil))
def T87(N:Nat):FT:=(87,qS [(.sl .u8),.u8] [(.int .i64)] fun x=>ko N x.1 x.2.1)::(T47 N)
theorem K87(N:Nat):AT (T87 N):=fnA zX (K47 N) .auto Tryz.func87 .nil
def zxL(N:Nat):FT:=(160,qS [(.sl .u8)] [(.sl .u8)] fun x=>qC N x.1)::(T87 N)
theorem zyj(N:Nat):AT (zxL N):=zyH zX (K87 N) .auto Tryz.func160 .nil
def zxy(N:Nat):FT:=(118,qS [(.sl .u8),(.int .i64)] [(.sl .u8),(.int .i64),.bool] fun x=>zk N x.1 x.2.1)::(zxL N)
theorem zyc(N:Nat):AT (zxy N):=fnA zX (zyj N) .auto Tryz.func118 .nil
def zxQ(N:Nat):FT:=(170,qS [.str,.str] [.bool] fun x=>jH N x.1 x.2.1)::(zxy N)
theorem zyn(N:Nat):AT (zxQ N):=fnA zX (zyc N) .auto Tryz.func170 .nil
def zxJ(N:Nat):FT:=(154,qS [.str,.str] [.str,.bool] fun x=>jF N x.1 x.2.1)::(zxQ N)
theorem zyh(N:Nat):AT (zxJ N):=fnA zX (zyn N) .auto Tryz.func154 .nil
def zxC(N:Nat):FT:=(133,qS [.str,.str] [.str,.bool] fun x=>jD N x.1 x.2.1)::(zxJ N)
theorem zyf(N:Nat):AT (zxC N):=fnA zX (zyh N) .auto Tryz.func133 .nil
def zxR(N:Nat):FT:=(171,qS [.str,.str] [.bool] fun x=>jI N x.1 x.2.1)::(zxC N)
theorem zyo(N:Nat):AT (zxR N):=fnA zX (zyf N) .auto Tryz.func171 .nil
def zxK(N:Nat):FT:=(155,qS [.str,.str] [.str,.bool] fun x=>jG N x.1 x.2.1)::(zxR N)
theorem zyi(N:Nat):AT (zxK N):=fnA zX (zyo N) .auto Tryz.func155 .nil
def zxD(N:Nat):FT:=(134,qS [.str,.str] [.str,.bool] fun x=>jE N x.1 x.2.1)::(zxK N)
theorem zxi(N:Nat):AT (zxD N):=fnA zX (zyi N) .auto Tryz.func134 .nil
def zcb(N:Nat):LF:=zY [(3,.u8)] ⟨.u8::.drop::.drop::(.gs 0 1)::.drop::.drop::(.int .i64)::dr 14 [],[.seq .u8 1 0 false]⟩ [(.exit 0,⟨dr 3 ((.gs 0 1)::dr 17 []),[.seq .u8 1 0 false]⟩)] (lsT [.c,.i,(.l .u8)] (fun x=>kF N N x.1 x.2.1 x.2.2.1) fun R o κ=>κ 0 [.l .u8 o])
theorem zfX(N:Nat):Lp Tryz.f68 [1,1,0,1,2] (zcb N):=jv zX (zxi N) .auto .nil [.c,.i,(.l .u8)] [[(.l .u8)]] (fun m x=>kF N m x.1 x.2.1 x.2.2.1) ⟨fun x=>x.1,()⟩ N
def T68(N:Nat):FT:=(68,qS [.u8] [(.sl .u8)] fun x=>zbR N x.1)::(zxD N)
theorem K68(N:Nat):AT (T68 N):=fnA zX (zxi N) (.two .auto (.two .auto (.two (.two .auto (.one (.by_ (zcb N)))) .auto))) Tryz.func68 (.cons (zfX N) .nil)
def zcc(N:Nat):LF:=zY [] ⟨.u8::dr 4 ((.gs 0 0)::(.cst (.int .i64 (5:Int)))::(.int .i64)::dr 10 []),[.seq .str 0 0 true]⟩ [(.ret,⟨.drop::.drop::.str::dr 15 [],[.seq .str 0 0 true]⟩),(.exit 0,⟨dr 18 [],[.seq .str 0 0 true]⟩)] (lsT [.c,.i,(.l .str)] (fun x=>kG N N x.1 x.2.1 x.2.2.1) fun R o κ=>(zv o (fun a9=>κ 0 [.s a9.1,.l .str a9.2]) (fun b10=>κ 1 [.l .str b10])))
theorem zfZ(N:Nat):Lp Tryz.f69 [1,0,1,2] (zcc N):=jv zX (K68 N) .auto .nil [.c,.i,(.l .str)] [[.s,(.l .str)],[(.l .str)]] (fun m x=>kG N m x.1 x.2.1 x.2.2.1) ⟨fun x=>(Sum.inl (x.1,x.2.1)),fun x=>(Sum.inr x.1),()⟩ N
def T69(N:Nat):FT:=(69,qS [.u8] [.str] fun x=>zdi N x.1)::(T68 N)
theorem K69(N:Nat):AT (T69 N):=fnA zX (K68 N) (.two .auto (.two (.two .auto (.one (.by_ (zcc N)))) .auto)) Tryz.func69 (.cons (zfZ N) .nil)
def zbm(N:Nat):LF:=zY [] ⟨(.fn 158 [] [])::(.ptr 1 0 1)::dr 3 ((.gs 0 0)::(.int .i64)::(.int .i64)::dr 11 []),[.seq .u8 0 0 true,.cells [(.gs 0 0)] 0]⟩ [(.exit 0,⟨dr 19 [],[.seq .u8 0 0 true,.cells [(.gs 0 0)] 0]⟩)] (lsT [.i,.i,(.l .u8)] (fun x=>jq N N x.1 x.2.1 x.2.2.1) fun R o κ=>κ 0 [.l .u8 o])
theorem zeH(N:Nat):Lp Tryz.f157 [1,2] (zbm N):=jv zX (K69 N) .auto .nil [.i,.i,(.l .u8)] [[(.l .u8)]] (fun m x=>jq N m x.1 x.2.1 x.2.2.1) ⟨fun x=>x.1,()⟩ N
def zxE(N:Nat):FT:=(137,qS [.str] [.str] fun x=>kU N x.1)::(T69 N)
theorem zwB(N:Nat):AT (zxE N):=fnA zX (K69 N) (.two .auto (.two .auto (.two .auto (.two (.cal 1 157 (.two .auto (.one (.by_ (zbm N)))) .auto) .auto)))) Tryz.func137 (.cons (zeH N) .nil)
def zaP(N:Nat):LF:=zY [] ⟨.drop::(.map 0)::dr 3 ((.isl .u8)::(.int .i64)::(.int .i64)::dr 10 []),[.kv .str .u8 0]⟩ [(.exit 0,⟨.drop::(.map 0)::dr 16 [],[.kv .str .u8 0]⟩)] (lsT [(.l .u8),.i,.i,(.l (.pair .str .u8))] (fun x=>jK N N x.1 x.2.1 x.2.2.1 x.2.2.2.1) fun R o κ=>κ 0 [.l (.pair .str .u8) o])
def zaQ(N:Nat):LF:=zY [] ⟨dr 7 (.u8::(.map 0)::dr 24 ((.gs 1 0)::(.int .i64)::(.int .i64)::dr 17 [])),[.kv .str .u8 0,.seq .str 0 0 true]⟩ [(.ret,⟨.drop::.drop::.u8::(.cst (.bool false))::dr 49 [],[.kv .str .u8 0,.seq .str 0 0 true]⟩),(.exit 0,⟨dr 7 (.u8::dr 45 []),[.kv .str .u8 0,.seq .str 0 0 true]⟩)] (lsT [.c,.i,.i,(.l (.pair .str .u8)),(.l .str)] (fun x=>qE N N x.1 x.2.1 x.2.2.1 x.2.2.2.1 x.2.2.2.2.1) fun R o κ=>(zv o (fun a50=>κ 0 [.c a50.1,.l (.pair .str .u8) a50.2.1,.l .str a50.2.2]) (fun b51=>κ 1 [.c b51.1,.l (.pair .str .u8) b51.2.1,.l .str b51.2.2])))
theorem zdM(N:Nat):Lp Tryz.f135 [1,1,0,1,2] (zaP N):=jv zX (zwB N) .auto .nil [(.l .u8),.i,.i,(.l (.pair .str .u8))] [[(.l (.pair .str .u8))]] (fun m x=>jK N m x.1 x.2.1 x.2.2.1 x.2.2.2.1) ⟨fun x=>x.1,()⟩ N
theorem zdO(N:Nat):Lp Tryz.f117 [1,1,1,1,1,1,1,0,1,2] (zaQ N):=jv zX (zwB N) .auto .nil [.c,.i,.i,(.l (.pair .str .u8)),(.l .str)] [[.c,(.l (.pair .str .u8)),(.l .str)],[.c,(.l (.pair .str .u8)),(.l .str)]] (fun m x=>qE N m x.1 x.2.1 x.2.2.1 x.2.2.2.1 x.2.2.2.2.1) ⟨fun x=>(Sum.inl (x.1,x.2.1,x.2.2.1)),fun x=>(Sum.inr (x.1,x.2.1,x.2.2.1)),()⟩ N
def zwC(N:Nat):FT:=(117,qS [.str] [.u8,.bool] fun x=>j0 N x.1)::(zxE N)
theorem zxg(N:Nat):AT (zwC N):=fnA zX (zwB N) (.two .auto (.two .auto (.two .auto (.two .auto (.two .auto (.two .auto (.two (.cal 0 135 (.two .auto (.two .auto (.two (.two .auto (.one (.by_ (zaP N)))) .auto))) .auto) (.two (.two .auto (.one (.by_ (zaQ N)))) .auto)))))))) Tryz.func117 (.cons (zdM N) (.cons (zdO N) .nil))
def T48(N:Nat):FT:=(48,zmo (.pair (.sl .u8) (.int .i64)) [(.int .u32)] [uR1] fun p x=>zI N p x.1)::(zwC N)
theorem K48(N:Nat):AT (T48 N):=fnP zX (zxg N) (.two .auto (.two .auto (.two .auto (.two (.two .auto (.one (.one (.two .auto (.two .auto (.two (.one (.two .auto (.two (.two (.by_ (zpr Tryz.prog glA (zhL (zwC N)) Tryz.f48 [1,1,1,0,1,2,2,1,1,0,2,1,0,0] [(some 30,0),(some 31,1),(some 32,3),(some 33,7),(some 34,15),(some 35,31),(some 36,15),(some 37,79),(some 38,207),(some 39,463),(some 40,1023),(some 41,2047),(some 42,4095)])) .auto) .auto))) .auto)))))) .auto)))) Tryz.func48 (.cons (zyV zX (zxg N) Tryz.f48 [1,1,1,0,1,2,2,1,1,0,2,1,0,0] [(some 30,0),(some 31,1),(some 32,3),(some 33,7),(some 34,15),(some 35,31),(some 36,15),(some 37,79),(some 38,207),(some 39,463),(some 40,1023),(some 41,2047),(some 42,4095)]) .nil)
def jL(N:Nat):LF:=zY [] ⟨(.ptr 0 0 2)::.drop::(.ptr 1 0 10)::dr 11 ((.gs 2 0)::(.cst (.int .i64 (3:Int)))::(.int .i64)::dr 57 []),[.cells [(.isl .u8),(.int .i64)] 0,.cells [(.cst (.int .i64 (0:Int))),(.cst (.int .u32 (0:Int))),(.cst (.str ([]:List UInt8))),(.cst (.int .i64 (0:Int))),(.cst (.str ([]:List UInt8))),(.cst (.int .i64 (0:Int))),.u8,(.cst (.int .u32 (0:Int))),(.cst (.int .u32 (0:Int))),(.cst .jw)] 0,.seq (.pair .str (.int .i64)) 0 0 true]⟩ [(.ret,⟨.drop::.drop::(.ptr 1 0 10)::dr 71 [],[.cells [(.isl .u8),(.int .i64)] 0,.cells [(.int .i64),(.cst (.int .u32 (0:Int))),(.cst (.str ([]:List UInt8))),(.cst (.int .i64 (0:Int))),.str,(.cst (.int .i64 (0:Int))),.u8,(.cst (.int .u32 (0:Int))),(.cst (.int .u32 (0:Int))),(.cst .jw)] 0,.seq (.pair .str (.int .i64)) 0 0 true]⟩),(.exit 0,⟨(.ptr 0 0 2)::.drop::(.ptr 1 0 10)::dr 71 [],[.cells [(.isl .u8),(.int .i64)] 0,.cells [(.cst (.int .i64 (0:Int))),(.cst (.int .u32 (0:Int))),(.cst (.str ([]:List UInt8))),(.cst (.int .i64 (0:Int))),(.cst (.str ([]:List UInt8))),(.cst (.int .i64 (0:Int))),.u8,(.cst (.int .u32 (0:Int))),(.cst (.int .u32 (0:Int))),(.cst .jw)] 0,.seq (.pair .str (.int .i64)) 0 0 true]⟩)] (lsT [.i,(.l .u8),.i,.c,(.l (.pair .str (.int .i64)))] (fun x=>zl N N x.1 x.2.1 x.2.2.1 x.2.2.2.1 x.2.2.2.2.1) fun R o κ=>(zv o (fun a23=>κ 0 [.l .u8 a23.1,.i a23.2.1,.i a23.2.2.1,.s a23.2.2.2.1,.c a23.2.2.2.2.1,.l (.pair .str (.int .i64)) a23.2.2.2.2.2]) (fun b24=>κ 1 [.l .u8 b24.1,.i b24.2.1,.c b24.2.2.1,.l (.pair .str (.int .i64)) b24.2.2.2])))
def jM(N:Nat):LF:=zY [] ⟨(.ptr 0 0 2)::.drop::(.ptr 1 0 10)::dr 4 ((.int .u32)::dr 42 ((.gs 3 0)::(.cst (.int .i64 (4:Int)))::(.int .i64)::dr 21 [])),[.cells [(.isl .u8),(.int .i64)] 0,.cells [(.cst (.int .i64 (0:Int))),(.cst (.int .u32 (0:Int))),(.cst (.str ([]:List UInt8))),(.cst (.int .i64 (0:Int))),(.cst (.str ([]:List UInt8))),(.cst (.int .i64 (0:Int))),.u8,(.cst (.int .u32 (0:Int))),(.cst (.int .u32 (0:Int))),(.cst .jw)] 0,.gone,.seq .str 0 0 true]⟩ [(.ret,⟨.drop::.drop::(.ptr 1 0 10)::dr 71 [],[.cells [(.isl .u8),(.int .i64)] 0,.cells [(.int .i64),(.int .u32),(.cst (.str ([]:List UInt8))),(.cst (.int .i64 (0:Int))),(.cst (.str ([]:List UInt8))),(.cst (.int .i64 (0:Int))),.u8,(.cst (.int .u32 (0:Int))),(.cst (.int .u32 (0:Int))),(.cst .jw)] 0,.gone,.seq .str 0 0 true]⟩),(.exit 2,⟨(.ptr 0 0 2)::.drop::(.ptr 1 0 10)::dr 4 ((.int .u32)::dr 66 []),[.cells [(.isl .u8),(.int .i64)] 0,.cells [(.cst (.int .i64 (0:Int))),(.cst (.int .u32 (0:Int))),(.cst (.str ([]:List UInt8))),(.cst (.int .i64 (0:Int))),(.cst (.str ([]:List UInt8))),(.cst (.int .i64 (0:Int))),.u8,(.cst (.int .u32 (0:Int))),(.cst (.int .u32 (0:Int))),(.cst .jw)] 0,.gone,.seq .str 0 0 true]⟩)] (lsT [.i,.i,(.l .u8),.i,.c,(.l .str)] (fun x=>zi N N x.1 x.2.1 x.2.2.1 x.2.2.2.1 x.2.2.2.2.1 x.2.2.2.2.2.1) fun R o κ=>(zv o (fun a51=>κ 0 [.l .u8 a51.1,.i a51.2.1,.i a51.2.2.1,.i a51.2.2.2.1,.c a51.2.2.2.2.1,.l .str a51.2.2.2.2.2]) (fun b52=>κ 1 [.i b52.1,.l .u8 b52.2.1,.i b52.2.2.1,.c b52.2.2.2.1,.l .str b52.2.2.2.2])))
theorem xz(N:Nat):Lp Tryz.f28 [1,0,1,2] (jL N):=jv zX (K48 N) .auto .nil [.i,(.l .u8),.i,.c,(.l (.pair .str (.int .i64)))] [[(.l .u8),.i,.i,.s,.c,(.l (.pair .str (.int .i64)))],[(.l .u8),.i,.c,(.l (.pair .str (.int .i64)))]] (fun m x=>zl N m x.1 x.2.1 x.2.2.1 x.2.2.2.1 x.2.2.2.2.1) ⟨fun x=>(Sum.inl (x.1,x.2.1,x.2.2.1,x.2.2.2.1,x.2.2.2.2.1,x.2.2.2.2.2.1)),fun x=>(Sum.inr (x.1,x.2.1,x.2.2.1,x.2.2.2.1)),()⟩ N
theorem xB(N:Nat):Lp Tryz.f28 [1,1,1,1,1,0,1,2] (jM N):=jv zX (K48 N) .auto .nil [.i,.i,(.l .u8),.i,.c,(.l .str)] [[(.l .u8),.i,.i,.i,.c,(.l .str)],[.i,(.l .u8),.i,.c,(.l .str)]] (fun m x=>zi N m x.1 x.2.1 x.2.2.1 x.2.2.2.1 x.2.2.2.2.1 x.2.2.2.2.2.1) ⟨fun x=>(Sum.inl (x.1,x.2.1,x.2.2.1,x.2.2.2.1,x.2.2.2.2.1,x.2.2.2.2.2.1)),fun x=>(Sum.inr (x.1,x.2.1,x.2.2.1,x.2.2.2.1,x.2.2.2.2.1)),()⟩ N
def T28(N:Nat):FT:=(28,zmo (.pair (.sl .u8) (.int .i64)) [] [uR1] fun p x=>zy N p)::(T48 N)
theorem K28(N:Nat):AT (T28 N):=fnP zX (K48 N) (.two .auto (.two (.two .auto (.one (.by_ (jL N)))) (.two .auto (.two .auto (.two .auto (.two (.two .auto (.one (.by_ (jM N)))) .auto)))))) Tryz.func28 (.cons (xz N) (.cons (xB N) .nil))
def T63(N:Nat):FT:=(63,qS [uR1] [uR1,.bool] fun x=>jt N x.1)::(T28 N)
theorem K63(N:Nat):AT (T63 N):=fnA zX (K28 N) .auto Tryz.func63 .nil
def jO(N:Nat):LF:=zY [] ⟨(.isl .u8)::(.isl .u8)::dr 10 ((.int .i64)::(.int .i64)::dr 12 []),[]⟩ [(.ret,⟨dr 4 ((.cst (.bool false))::dr 21 []),[]⟩),(.exit 0,⟨dr 26 [],[]⟩)] (lsT [(.l .u8),(.l .u8),.i,.i] (fun x=>zK N N x.1 x.2.1 x.2.2.1 x.2.2.2.1) fun R o κ=>(zv o (fun a11=>κ 0 []) (fun b12=>κ 1 [])))
theorem xD(N:Nat):Lp Tryz.f60 [1,1,0,1,2] (jO N):=jv zX (K63 N) .auto .nil [(.l .u8),(.l .u8),.i,.i] [[],[]] (fun m x=>zK N m x.1 x.2.1 x.2.2.1 x.2.2.2.1) ⟨fun _=>(Sum.inl ()),fun _=>(Sum.inr ()),()⟩ N
def T60(N:Nat):FT:=(60,qS [(.sl .u8),(.sl .u8)] [.bool] fun x=>qD N x.1 x.2.1)::(T63 N)
theorem K60(N:Nat):AT (T60 N):=fnA zX (K63 N) (.two .auto (.two .auto (.two (.two .auto (.one (.by_ (jO N)))) .auto))) Tryz.func60 (.cons (xD N) .nil)
def T36(N:Nat):FT:=(36,qS [uR1,uR1] [.bool] fun x=>zP N x.1 x.2.1)::(T60 N)
theorem K36(N:Nat):AT (T36 N):=fnA zX (K60 N) .auto Tryz.func36 .nil
def zxp(N:Nat):FT:=(101,zmo uR1 [uR1] [] fun p x=>zda N p x.1)::(T36 N)
theorem zx3(N:Nat):AT (zxp N):=fnP zX (K36 N) .auto Tryz.func101 .nil
def zxr(N:Nat):FT:=(103,zmo uR1 [uR1] [] fun p x=>zbf N p x.1)::(zxp N)
theorem zx5(N:Nat):AT (zxr N):=fnP zX (zx3 N) .auto Tryz.func103 .nil
def zxt(N:Nat):FT:=(105,zmo uR1 [uR1] [] fun p x=>wC N p x.1)::(zxr N)
theorem zx7(N:Nat):AT (zxt N):=fnP zX (zx5 N) .auto Tryz.func105 .nil
def zxw(N:Nat):FT:=(108,zmo uR1 [uR1] [] fun p x=>qv N p x.1)::(zxt N)
theorem zya(N:Nat):AT (zxw N):=fnP zX (zx7 N) .auto Tryz.func108 .nil
def T67(N:Nat):FT:=(67,qS [uR1] [uR1,.bool] fun x=>jN N x.1)::(zxw N)
theorem K67(N:Nat):AT (T67 N):=fnA zX (zya N) .auto Tryz.func67 .nil
def T41(N:Nat):FT:=(41,qS [uR1] [uR1,.bool] fun x=>kI N x.1)::(T67 N)
theorem K41(N:Nat):AT (T41 N):=fnA zX (K67 N) .auto Tryz.func41 .nil
def T73(N:Nat):FT:=(73,qS [.u8] [.bool] fun x=>zab N x.1)::(T41 N)
theorem K73(N:Nat):AT (T73 N):=fnA zX (K41 N) .auto Tryz.func73 .nil
def zar(N:Nat):LF:=zY [] ⟨.drop::.str::(.ptr 2 0 1)::dr 4 ((.int .i64)::(.int .i64)::dr 10 []),[.gone,.gone,.cells [(.fn 73 [] [])] 0]⟩ [(.ret,⟨dr 4 ((.cst (.bool false))::dr 14 []),[.gone,.gone,.cells [(.fn 73 [] [])] 0]⟩),(.exit 0,⟨dr 19 [],[.gone,.gone,.cells [(.fn 73 [] [])] 0]⟩)] (lsT [.s,.i,.i] (fun x=>qP N N x.1 x.2.1 x.2.2.1) fun R o κ=>(zv o (fun a15=>κ 0 []) (fun b16=>κ 1 [])))
theorem zdq(N:Nat):Lp Tryz.f112 [1,0,1,2] (zar N):=jv zX (K73 N) .auto .nil [.s,.i,.i] [[],[]] (fun m x=>qP N m x.1 x.2.1 x.2.2.1) ⟨fun _=>(Sum.inl ()),fun _=>(Sum.inr ()),()⟩ N
def T71(N:Nat):FT:=(71,qS [uR1] [uR1,.bool] fun x=>jd N x.1)::(T73 N)
theorem K71(N:Nat):AT (T71 N):=fnA zX (K73 N) (.two .auto (.two (.cal 5 72 (.two .auto (.two (.cal 6 112 (.two .auto (.two (.two .auto (.one (.by_ (zar N)))) .auto)) .auto) .auto)) .auto) .auto)) Tryz.func71 (.cons (zdq N) .nil)
def zxx(N:Nat):FT:=(113,qS [.u8] [.bool] fun x=>zdL N x.1)::(T71 N)
theorem zyb(N:Nat):AT (zxx N):=fnA zX (K71 N) .auto Tryz.func113 .nil
def T76(N:Nat):FT:=(76,qS [.u8] [.bool] fun x=>zcL N x.1)::(zxx N)
theorem K76(N:Nat):AT (T76 N):=fnA zX (zyb N) .auto Tryz.func76 .nil
def xd(N:Nat):LF:=zY [] ⟨.drop::.str::(.ptr 2 0 1)::dr 4 ((.int .i64)::(.int .i64)::dr 10 []),[.gone,.gone,.cells [(.fn 76 [] [])] 0]⟩ [(.ret,⟨dr 4 ((.cst (.bool false))::dr 14 []),[.gone,.gone,.cells [(.fn 76 [] [])] 0]⟩),(.exit 0,⟨dr 19 [],[.gone,.gone,.cells [(.fn 76 [] [])] 0]⟩)] (lsT [.s,.i,.i] (fun x=>qn N N x.1 x.2.1 x.2.2.1) fun R o κ=>(zv o (fun a15=>κ 0 []) (fun b16=>κ 1 [])))
def xg(N:Nat):LF:=zY [] ⟨.drop::.str::(.ptr 3 0 1)::dr 4 ((.int .i64)::(.int .i64)::dr 10 []),[.gone,.gone,.gone,.cells [(.fn 73 [] [])] 0]⟩ [(.ret,⟨dr 4 ((.cst (.bool false))::dr 14 []),[.gone,.gone,.gone,.cells [(.fn 73 [] [])] 0]⟩),(.exit 0,⟨dr 19 [],[.gone,.gone,.gone,.cells [(.fn 73 [] [])] 0]⟩)] (lsT [.s,.i,.i] (fun x=>qo N N x.1 x.2.1 x.2.2.1) fun R o κ=>(zv o (fun a34=>κ 0 []) (fun b35=>κ 1 [])))
theorem zcr(N:Nat):Lp Tryz.f112 [1,0,1,2] (xd N):=jv zX (K76 N) .auto .nil [.s,.i,.i] [[],[]] (fun m x=>qn N m x.1 x.2.1 x.2.2.1) ⟨fun _=>(Sum.inl ()),fun _=>(Sum.inr ()),()⟩ N
theorem zcs(N:Nat):Lp Tryz.f112 [1,0,1,2] (xg N):=jv zX (K76 N) .auto .nil [.s,.i,.i] [[],[]] (fun m x=>qo N m x.1 x.2.1 x.2.2.1) ⟨fun _=>(Sum.inl ()),fun _=>(Sum.inr ()),()⟩ N
def T75(N:Nat):FT:=(75,qS [uR1] [uR1,.bool] fun x=>j7 N x.1)::(T76 N)
theorem K75(N:Nat):AT (T75 N):=fnA zX (K76 N) (.two .auto (.two (.cal 2 72 (.two .auto (.two (.cal 6 112 (.two .auto (.two (.two .auto (.one (.by_ (xd N)))) .auto)) .auto) .auto)) (.cal 6 72 (.two .auto (.two (.cal 6 112 (.two .auto (.two (.two .auto (.one (.by_ (xg N)))) .auto)) .auto) .auto)) .auto)) .auto)) Tryz.func75 (.cons (zcr N) (.cons (zcs N) .nil))
def T24(N:Nat):FT:=(24,qS [uR1] [.bool] fun x=>za0 N x.1)::(T75 N)
theorem K24(N:Nat):AT (T24 N):=fnA zX (K75 N) .auto Tryz.func24 .nil
def zbo(N:Nat):LF:=zY [(3,.str)] ⟨dr 3 ((.gs 0 1)::dr 3 ((.isl .u8)::(.int .i64)::(.int .i64)::dr 13 [])),[.seq .str 1 0 false]⟩ [(.exit 0,⟨dr 3 ((.gs 0 1)::dr 19 []),[.seq .str 1 0 false]⟩)] (lsT [(.l .u8),.i,.i,(.l .str)] (fun x=>wU N N x.1 x.2.1 x.2.2.1 x.2.2.2.1) fun R o κ=>κ 0 [.l .str o])
theorem zeI(N:Nat):Lp Tryz.f40 [1,1,0,1,2] (zbo N):=jv zX (K24 N) .auto .nil [(.l .u8),.i,.i,(.l .str)] [[(.l .str)]] (fun m x=>wU N m x.1 x.2.1 x.2.2.1 x.2.2.2.1) ⟨fun x=>x.1,()⟩ N
def T40(N:Nat):FT:=(40,qS [.u8] [.str] fun x=>zac N x.1)::(T24 N)
theorem K40(N:Nat):AT (T40 N):=fnA zX (K24 N) (.two .auto (.two .auto (.two (.two .auto (.one (.by_ (zbo N)))) .auto))) Tryz.func40 (.cons (zeI N) .nil)
def zxo(N:Nat):FT:=(100,qS [uR1] [.str] fun x=>kJ N x.1)::(T40 N)
theorem zx2(N:Nat):AT (zxo N):=fnA zX (K40 N) .auto Tryz.func100 .nil
def zxq(N:Nat):FT:=(102,qS [uR1] [.str] fun x=>wB N x.1)::(zxo N)
theorem zx4(N:Nat):AT (zxq N):=fnA zX (zx2 N) .auto Tryz.func102 .nil
def zxs(N:Nat):FT:=(104,qS [uR1] [.str] fun x=>jn N x.1)::(zxq N)
theorem zx6(N:Nat):AT (zxs N):=fnA zX (zx4 N) .auto Tryz.func104 .nil
def zxv(N:Nat):FT:=(107,qS [(.sl .u8)] [(.sl .u8)] fun x=>wV N x.1)::(zxs N)
theorem zx9(N:Nat):AT (zxv N):=fnA zX (zx6 N) .auto Tryz.func107 .nil
def zxu(N:Nat):FT:=(106,qS [uR1] [.str] fun x=>z8 N x.1)::(zxv N)
theorem zx8(N:Nat):AT (zxu N):=fnA zX (zx9 N) .auto Tryz.func106 .nil
def T64(N:Nat):FT:=(64,qS [uR1] [.str] fun x=>wF N x.1)::(zxu N)
theorem K64(N:Nat):AT (T64 N):=fnA zX (zx8 N) .auto Tryz.func64 .nil
def T39(N:Nat):FT:=(39,qS [uR1] [.str] fun x=>zbe N x.1)::(T64 N)
theorem K39(N:Nat):AT (T39 N):=fnA zX (K64 N) .auto Tryz.func39 .nil
def T74(N:Nat):FT:=(74,qS [uR1] [.str] fun x=>zaq N x.1)::(T39 N)
theorem K74(N:Nat):AT (T74 N):=fnA zX (K39 N) .auto Tryz.func74 .nil
def T20(N:Nat):FT:=(20,qS [uR1] [(.sl .u8),.bool] fun x=>jc N x.1)::(T74 N)
theorem K20(N:Nat):AT (T20 N):=fnA zX (K74 N) .auto Tryz.func20 .nil
def je(N:Nat):LF:=zY [] ⟨(.isl .str)::.str::dr 5 ((.int .i64)::(.int .i64)::dr 10 []),[]⟩ [(.ret,⟨dr 4 ((.int .i64)::dr 14 []),[]⟩),(.exit 0,⟨dr 19 [],[]⟩)] (lsT [(.l .str),.s,.i,.i] (fun x=>zE N N x.1 x.2.1 x.2.2.1 x.2.2.2.1) fun R o κ=>(zv o (fun a11=>κ 0 [.i a11]) (fun b12=>κ 1 [])))
theorem kb(N:Nat):Lp Tryz.f44 [1,0,1,2] (je N):=jv zX (K20 N) .auto .nil [(.l .str),.s,.i,.i] [[.i],[]] (fun m x=>zE N m x.1 x.2.1 x.2.2.1 x.2.2.2.1) ⟨fun x=>(Sum.inl x.1),fun _=>(Sum.inr ()),()⟩ N
def T44(N:Nat):FT:=(44,qS [(.sl .str),.str] [(.int .i64)] fun x=>zz N x.1 x.2.1)::(T20 N)
theorem K44(N:Nat):AT (T44 N):=fnA zX (K20 N) (.two .auto (.two (.two .auto (.one (.by_ (je N)))) .auto)) Tryz.func44 (.cons (kb N) .nil)
def T26(N:Nat):FT:=(26,zmo (.pair (.sl .u8) (.int .i64)) [] [uR1] fun p x=>zL N p)::(T44 N)
theorem K26(N:Nat):AT (T26 N):=fnP zX (K44 N) .auto Tryz.func26 .nil
def T21(N:Nat):FT:=(21,qS [(.sl .u8),(.int .i64)] [uR1,(.int .i64),.bool] fun x=>zW N x.1 x.2.1)::(T26 N)
theorem K21(N:Nat):AT (T21 N):=fnA zX (K26 N) .auto Tryz.func21 .nil
def zbu(N:Nat):LF:=zY [] ⟨(.isl .u8)::(.int .i64)::dr 4 ((.int .i64)::dr 31 []),[]⟩ [(.exit 0,⟨(.isl .u8)::(.int .i64)::dr 4 ((.int .i64)::dr 31 []),[]⟩)] (lsT [(.l .u8),.i,.i] (fun x=>js N N x.1 x.2.1 x.2.2.1) fun R o κ=>κ 0 [.l .u8 o.1,.i o.2.1,.i o.2.2])
theorem zeM(N:Nat):Lp Tryz.f51 [1,1,0,2] (zbu N):=jv zX (K21 N) .auto .nil [(.l .u8),.i,.i] [[(.l .u8),.i,.i]] (fun m x=>js N m x.1 x.2.1 x.2.2.1) ⟨fun x=>(x.1,x.2.1,x.2.2.1),()⟩ N
def T51(N:Nat):FT:=(51,qS [(.sl .u8),(.int .i64)] [.str,(.int .i64)] fun x=>jb N x.1 x.2.1)::(T21 N)
theorem K51(N:Nat):AT (T51 N):=fnA zX (K21 N) (.two .auto (.two .auto (.two (.one (.by_ (zbu N))) .auto))) Tryz.func51 (.cons (zeM N) .nil)
def zbs(N:Nat):LF:=zY [] ⟨(.isl .u8)::(.int .i64)::dr 4 ((.int .i64)::dr 28 []),[]⟩ [(.ret,⟨dr 4 (.str::(.int .i64)::dr 29 []),[]⟩),(.exit 0,⟨dr 35 [],[]⟩)] (lsT [(.l .u8),.i,.i] (fun x=>qe N N x.1 x.2.1 x.2.2.1) fun R o κ=>(zv o (fun a7=>κ 0 [.s a7.1,.i a7.2]) (fun b8=>κ 1 [])))
theorem zeL(N:Nat):Lp Tryz.f52 [1,0,1,2] (zbs N):=jv zX (K51 N) .auto .nil [(.l .u8),.i,.i] [[.s,.i],[]] (fun m x=>qe N m x.1 x.2.1 x.2.2.1) ⟨fun x=>(Sum.inl (x.1,x.2.1)),fun _=>(Sum.inr ()),()⟩ N
def T52(N:Nat):FT:=(52,qS [(.sl .u8),(.int .i64)] [.str,(.int .i64)] fun x=>qz N x.1 x.2.1)::(T51 N)
theorem K52(N:Nat):AT (T52 N):=fnA zX (K51 N) (.two .auto (.two (.two .auto (.one (.by_ (zbs N)))) .auto)) Tryz.func52 (.cons (zeL N) .nil)
def xH(N:Nat):LF:=zY [] ⟨(.int .u32)::.drop::.drop::.str::dr 18 [],[]⟩ [(.exit 0,⟨(.int .u32)::.drop::.drop::.str::dr 18 [],[]⟩)] (lsT [.i,.s] (fun x=>qB N N x.1 x.2.1) fun R o κ=>κ 0 [.i o.1,.s o.2])
theorem zc5(N:Nat):Lp Tryz.f91 [1,1,0,2] (xH N):=jv zX (K52 N) .auto .nil [.i,.s] [[.i,.s]] (fun m x=>qB N m x.1 x.2.1) ⟨fun x=>(x.1,x.2.1),()⟩ N
def T91(N:Nat):FT:=(91,qS [(.int .u32)] [.str] fun x=>jr N x.1)::(T52 N)
theorem K91(N:Nat):AT (T91 N):=fnA zX (K52 N) (.two .auto (.two .auto (.two (.one (.by_ (xH N))) .auto))) Tryz.func91 (.cons (zc5 N) .nil)
def zaf(N:Nat):LF:=zY [] ⟨.str::dr 3 ((.int .u64)::(.int .i64)::dr 38 []),[]⟩ [(.ret,⟨.drop::.drop::(.cst (.int .u32 (0:Int)))::(.cst (.bool false))::dr 40 [],[]⟩),(.exit 0,⟨.str::dr 3 ((.int .u64)::dr 39 []),[]⟩)] (lsT [.s,.i,.i] (fun x=>qN N N x.1 x.2.1 x.2.2.1) fun R o κ=>(zv o (fun a8=>κ 0 []) (fun b9=>κ 1 [.s b9.1,.i b9.2])))
theorem zdk(N:Nat):Lp Tryz.f53 [1,1,1,0,1,2] (zaf N):=jv zX (K91 N) .auto .nil [.s,.i,.i] [[],[.s,.i]] (fun m x=>qN N m x.1 x.2.1 x.2.2.1) ⟨fun _=>(Sum.inl ()),fun x=>(Sum.inr (x.1,x.2.1)),()⟩ N
def T53(N:Nat):FT:=(53,qS [.str] [(.int .u32),.bool] fun x=>jm N x.1)::(T91 N)
theorem K53(N:Nat):AT (T53 N):=fnA zX (K91 N) (.two .auto (.two .auto (.two .auto (.two (.two .auto (.one (.by_ (zaf N)))) .auto)))) Tryz.func53 (.cons (zdk N) .nil)
def T34(N:Nat):FT:=(34,qS [(.sl .u8),(.int .i64),.str] [.bool] fun x=>zq N x.1 x.2.1 x.2.2.1)::(T53 N)
theorem K34(N:Nat):AT (T34 N):=fnA zX (K53 N) .auto Tryz.func34 .nil
def T98(N:Nat):FT:=(98,qS [(.int .i64)] [.str] fun x=>wL N x.1)::(T34 N)
theorem K98(N:Nat):AT (T98 N):=fnA zX (K34 N) .auto Tryz.func98 .nil
def zaU(N:Nat):LF:=zY [] ⟨.str::.drop::.drop::.str::(.int .i64)::dr 24 [],[]⟩ [(.exit 0,⟨dr 3 (.str::dr 25 []),[]⟩)] (lsT [.s,.s,.i] (fun x=>qX N N x.1 x.2.1 x.2.2.1) fun R o κ=>κ 0 [.s o])
theorem zdQ(N:Nat):Lp Tryz.f161 [1,1,0,1,2] (zaU N):=jv zX (K98 N) .auto .nil [.s,.s,.i] [[.s]] (fun m x=>qX N m x.1 x.2.1 x.2.2.1) ⟨fun x=>x.1,()⟩ N
def zxM(N:Nat):FT:=(161,qS [.str] [.str] fun x=>wW N x.1)::(T98 N)
theorem zxm(N:Nat):AT (zxM N):=fnA zX (K98 N) (.two .auto (.two .auto (.two (.two .auto (.one (.by_ (zaU N)))) .auto))) Tryz.func161 (.cons (zdQ N) .nil)
def zaX(N:Nat):LF:=zY [] ⟨.str::.drop::.drop::(.int .i64)::dr 11 [],[]⟩ [(.ret,⟨.drop::.drop::(.int .i64)::dr 12 [],[]⟩),(.exit 0,⟨dr 15 [],[]⟩)] (lsT [.s,.i] (fun x=>zU N N x.1 x.2.1) fun R o κ=>(zv o (fun a19=>κ 0 [.i a19]) (fun b20=>κ 1 [])))
theorem zdT(N:Nat):Lp Tryz.f140 [1,0,1,2] (zaX N):=jv zX (zxm N) .auto .nil [.s,.i] [[.i],[]] (fun m x=>zU N m x.1 x.2.1) ⟨fun x=>(Sum.inl x.1),fun _=>(Sum.inr ()),()⟩ N
def zxF(N:Nat):FT:=(140,qS [.str] [(.int .i64)] fun x=>kW N x.1)::(zxM N)
theorem zxj(N:Nat):AT (zxF N):=fnA zX (zxm N) (.two .auto (.two (.two .auto (.one (.by_ (zaX N)))) .auto)) Tryz.func140 (.cons (zdT N) .nil)
def zai(N:Nat):LF:=zY [] ⟨.str::.drop::.drop::(.int .i64)::(.int .i64)::(.int .i64)::(.int .i64)::dr 47 [],[]⟩ [(.ret,⟨.drop::.drop::(.cst (.int .i64 (-1:Int)))::dr 51 [],[]⟩),(.exit 0,⟨dr 4 ((.int .i64)::dr 49 []),[]⟩)] (lsT [.s,.i,.i,.i,.i] (fun x=>qj N N x.1 x.2.1 x.2.2.1 x.2.2.2.1 x.2.2.2.2.1) fun R o κ=>(zv o (fun a22=>κ 0 []) (fun b23=>κ 1 [.i b23])))
theorem zdl(N:Nat):Lp Tryz.f121 [1,1,1,1,1,1,0,1,2] (zai N):=jv zX (zxj N) .auto .nil [.s,.i,.i,.i,.i] [[],[.i]] (fun m x=>qj N m x.1 x.2.1 x.2.2.1 x.2.2.2.1 x.2.2.2.2.1) ⟨fun _=>(Sum.inl ()),fun x=>(Sum.inr x.1),()⟩ N
def zxz(N:Nat):FT:=(121,qS [.str] [(.int .i64)] fun x=>wi N x.1)::(zxF N)
theorem zxh(N:Nat):AT (zxz N):=fnA zX (zxj N) (.two .auto (.two .auto (.two .auto (.two .auto (.two .auto (.two .auto (.two (.two .auto (.one (.by_ (zai N)))) .auto))))))) Tryz.func121 (.cons (zdl N) .nil)
def zaY(N:Nat):LF:=zY [] ⟨(.isl .u8)::(.int .i64)::dr 4 ((.int .i64)::dr 31 []),[]⟩ [(.exit 0,⟨(.isl .u8)::(.int .i64)::dr 4 ((.int .i64)::dr 31 []),[]⟩)] (lsT [(.l .u8),.i,.i] (fun x=>qY N N x.1 x.2.1 x.2.2.1) fun R o κ=>κ 0 [.l .u8 o.1,.i o.2.1,.i o.2.2])
theorem zdU(N:Nat):Lp Tryz.f92 [1,1,0,2] (zaY N):=jv zX (zxh N) .auto .nil [(.l .u8),.i,.i] [[(.l .u8),.i,.i]] (fun m x=>qY N m x.1 x.2.1 x.2.2.1) ⟨fun x=>(x.1,x.2.1,x.2.2.1),()⟩ N
def T92(N:Nat):FT:=(92,qS [(.sl .u8),(.int .i64)] [(.int .i64),(.int .i64)] fun x=>jC N x.1 x.2.1)::(zxz N)
theorem K92(N:Nat):AT (T92 N):=fnA zX (zxh N) (.two .auto (.two .auto (.two (.one (.by_ (zaY N))) .auto))) Tryz.func92 (.cons (zdU N) .nil)
def zam(N:Nat):LF:=zY [] ⟨(.isl .u8)::(.int .i64)::dr 4 ((.int .i64)::dr 42 []),[]⟩ [(.exit 0,⟨(.isl .u8)::(.int .i64)::dr 4 ((.int .i64)::dr 42 []),[]⟩)] (lsT [(.l .u8),.i,.i] (fun x=>zV N N x.1 x.2.1 x.2.2.1) fun R o κ=>κ 0 [.l .u8 o.1,.i o.2.1,.i o.2.2])
theorem zdo(N:Nat):Lp Tryz.f93 [1,1,0,2] (zam N):=jv zX (K92 N) .auto .nil [(.l .u8),.i,.i] [[(.l .u8),.i,.i]] (fun m x=>zV N m x.1 x.2.1 x.2.2.1) ⟨fun x=>(x.1,x.2.1,x.2.2.1),()⟩ N
def T93(N:Nat):FT:=(93,qS [(.sl .u8),(.int .i64)] [(.int .u32),(.int .i64)] fun x=>qu N x.1 x.2.1)::(T92 N)
theorem K93(N:Nat):AT (T93 N):=fnA zX (K92 N) (.two .auto (.two .auto (.two (.one (.by_ (zam N))) .auto))) Tryz.func93 (.cons (zdo N) .nil)
def wM(N:Nat):LF:=zY [] ⟨(.isl .u8)::(.int .i64)::dr 5 ((.int .i64)::dr 112 []),[]⟩ [(.exit 0,⟨(.isl .u8)::(.int .i64)::dr 5 ((.int .i64)::dr 112 []),[]⟩)] (lsT [(.l .u8),.i,.i] (fun x=>zZ N N x.1 x.2.1 x.2.2.1) fun R o κ=>κ 0 [.l .u8 o.1,.i o.2.1,.i o.2.2])
theorem zbp(N:Nat):Lp Tryz.f94 [1,1,1,0,2] (wM N):=jv zX (K93 N) .auto .nil [(.l .u8),.i,.i] [[(.l .u8),.i,.i]] (fun m x=>zZ N m x.1 x.2.1 x.2.2.1) ⟨fun x=>(x.1,x.2.1,x.2.2.1),()⟩ N
def T94(N:Nat):FT:=(94,qS [(.sl .u8),(.int .i64)] [(.sl .u8),(.int .i64),.bool] fun x=>zO N x.1 x.2.1)::(T93 N)
theorem K94(N:Nat):AT (T94 N):=fnA zX (K93 N) (.two .auto (.two .auto (.two .auto (.two (.one (.by_ (wM N))) .auto)))) Tryz.func94 (.cons (zbp N) .nil)
def kZ(N:Nat):LF:=zY [] ⟨(.isl .u8)::(.int .i64)::dr 3 ((.ptr 0 0 10)::(.ptr 1 0 10)::dr 96 []),[.cells [(.int .i64),(.int .u32),.str,(.int .i64),.str,(.int .i64),.u8,(.int .u32),(.int .u32),(.isl .u8)] 0,.cells [(.cst (.int .i64 (0:Int))),(.cst (.int .u32 (0:Int))),(.cst (.str ([]:List UInt8))),(.cst (.int .i64 (0:Int))),(.cst (.str ([]:List UInt8))),(.cst (.int .i64 (0:Int))),.u8,(.cst (.int .u32 (0:Int))),(.cst (.int .u32 (0:Int))),(.cst .jw)] 0]⟩ [(.ret,⟨dr 6 ((.ptr 1 0 10)::dr 96 []),[.cells [(.int .i64),(.int .u32),.str,(.int .i64),.str,(.int .i64),.u8,(.int .u32),(.int .u32),(.isl .u8)] 0,.cells [(.int .i64),(.int .u32),.str,(.int .i64),.str,(.int .i64),.u8,(.int .u32),(.int .u32),(.isl .u8)] 0]⟩),(.ret,⟨dr 6 ((.ptr 1 0 10)::dr 96 []),[.cells [(.int .i64),(.int .u32),.str,(.int .i64),.str,(.int .i64),.u8,(.int .u32),(.int .u32),(.isl .u8)] 0,.cells [(.cst (.int .i64 (0:Int))),(.cst (.int .u32 (0:Int))),(.cst (.str ([]:List UInt8))),(.cst (.int .i64 (0:Int))),(.cst (.str ([]:List UInt8))),(.cst (.int .i64 (0:Int))),.u8,(.cst (.int .u32 (0:Int))),(.cst (.int .u32 (0:Int))),(.cst .jw)] 0]⟩)] (lsT [(.l .u8),.i,.i,.i,.s,.i,.s,.i,.c,.i,.i,(.l .u8),.c] (fun x=>zD N N x.1 x.2.1 x.2.2.1 x.2.2.2.1 x.2.2.2.2.1 x.2.2.2.2.2.1 x.2.2.2.2.2.2.1 x.2.2.2.2.2.2.2.1 x.2.2.2.2.2.2.2.2.1 x.2.2.2.2.2.2.2.2.2.1 x.2.2.2.2.2.2.2.2.2.2.1 x.2.2.2.2.2.2.2.2.2.2.2.1 x.2.2.2.2.2.2.2.2.2.2.2.2.1) fun R o κ=>(zv o (fun a68=>κ 0 [.i a68.1,.i a68.2.1,.s a68.2.2.1,.i a68.2.2.2.1,.s a68.2.2.2.2.1,.i a68.2.2.2.2.2.1,.c a68.2.2.2.2.2.2.1,.i a68.2.2.2.2.2.2.2.1,.i a68.2.2.2.2.2.2.2.2.1,.l .u8 a68.2.2.2.2.2.2.2.2.2.1,.i a68.2.2.2.2.2.2.2.2.2.2.1,.i a68.2.2.2.2.2.2.2.2.2.2.2.1,.s a68.2.2.2.2.2.2.2.2.2.2.2.2.1,.i a68.2.2.2.2.2.2.2.2.2.2.2.2.2.1,.s a68.2.2.2.2.2.2.2.2.2.2.2.2.2.2.1,.i a68.2.2.2.2.2.2.2.2.2.2.2.2.2.2.2.1,.c a68.2.2.2.2.2.2.2.2.2.2.2.2.2.2.2.2.1,.i a68.2.2.2.2.2.2.2.2.2.2.2.2.2.2.2.2.2.1,.i a68.2.2.2.2.2.2.2.2.2.2.2.2.2.2.2.2.2.2.1,.l .u8 a68.2.2.2.2.2.2.2.2.2.2.2.2.2.2.2.2.2.2.2]) (fun b69=>κ 1 [.i b69.1,.i b69.2.1,.s b69.2.2.1,.i b69.2.2.2.1,.s b69.2.2.2.2.1,.i b69.2.2.2.2.2.1,.c b69.2.2.2.2.2.2.1,.i b69.2.2.2.2.2.2.2.1,.i b69.2.2.2.2.2.2.2.2.1,.l .u8 b69.2.2.2.2.2.2.2.2.2.1,.c b69.2.2.2.2.2.2.2.2.2.2])))
theorem zco(N:Nat):Lp Tryz.f54 [1,2] (kZ N):=jv zX (K94 N) .auto .nil [(.l .u8),.i,.i,.i,.s,.i,.s,.i,.c,.i,.i,(.l .u8),.c] [[.i,.i,.s,.i,.s,.i,.c,.i,.i,(.l .u8),.i,.i,.s,.i,.s,.i,.c,.i,.i,(.l .u8)],[.i,.i,.s,.i,.s,.i,.c,.i,.i,(.l .u8),.c]] (fun m x=>zD N m x.1 x.2.1 x.2.2.1 x.2.2.2.1 x.2.2.2.2.1 x.2.2.2.2.2.1 x.2.2.2.2.2.2.1 x.2.2.2.2.2.2.2.1 x.2.2.2.2.2.2.2.2.1 x.2.2.2.2.2.2.2.2.2.1 x.2.2.2.2.2.2.2.2.2.2.1 x.2.2.2.2.2.2.2.2.2.2.2.1 x.2.2.2.2.2.2.2.2.2.2.2.2.1) ⟨fun x=>(Sum.inl (x.1,x.2.1,x.2.2.1,x.2.2.2.1,x.2.2.2.2.1,x.2.2.2.2.2.1,x.2.2.2.2.2.2.1,x.2.2.2.2.2.2.2.1,x.2.2.2.2.2.2.2.2.1,x.2.2.2.2.2.2.2.2.2.1,x.2.2.2.2.2.2.2.2.2.2.1,x.2.2.2.2.2.2.2.2.2.2.2.1,x.2.2.2.2.2.2.2.2.2.2.2.2.1,x.2.2.2.2.2.2.2.2.2.2.2.2.2.1,x.2.2.2.2.2.2.2.2.2.2.2.2.2.2.1,x.2.2.2.2.2.2.2.2.2.2.2.2.2.2.2.1,x.2.2.2.2.2.2.2.2.2.2.2.2.2.2.2.2.1,x.2.2.2.2.2.2.2.2.2.2.2.2.2.2.2.2.2.1,x.2.2.2.2.2.2.2.2.2.2.2.2.2.2.2.2.2.2.1,x.2.2.2.2.2.2.2.2.2.2.2.2.2.2.2.2.2.2.2.1)),fun x=>(Sum.inr (x.1,x.2.1,x.2.2.1,x.2.2.2.1,x.2.2.2.2.1,x.2.2.2.2.2.1,x.2.2.2.2.2.2.1,x.2.2.2.2.2.2.2.1,x.2.2.2.2.2.2.2.2.1,x.2.2.2.2.2.2.2.2.2.1,x.2.2.2.2.2.2.2.2.2.2.1)),()⟩ N
def T54(N:Nat):FT:=(54,qS [(.sl .u8),(.int .i64),uR1] [uR1] fun x=>qy N x.1 x.2.1 x.2.2.1)::(T94 N)
theorem K54(N:Nat):AT (T54 N):=fnA zX (K94 N) (.two .auto (.one (.by_ (kZ N)))) Tryz.func54 (.cons (zco N) .nil)
def zal(N:Nat):LF:=zY [] ⟨.drop::.drop::(.ptr 0 0 10)::.str::.drop::.str::.drop::.str::dr 3 ((.int .i64)::dr 93 []),[.cells [(.cst (.int .i64 (0:Int))),(.cst (.int .u32 (0:Int))),(.cst (.str ([]:List UInt8))),(.cst (.int .i64 (0:Int))),(.cst (.str ([]:List UInt8))),(.cst (.int .i64 (0:Int))),.u8,(.cst (.int .u32 (0:Int))),(.cst (.int .u32 (0:Int))),(.cst .jw)] 0]⟩ [(.ret,⟨.drop::.drop::(.ptr 0 0 10)::dr 102 [],[.cells [(.cst (.int .i64 (9:Int))),(.cst (.int .u32 (0:Int))),.str,(.int .i64),.str,(.cst (.int .i64 (0:Int))),.u8,(.cst (.int .u32 (0:Int))),(.cst (.int .u32 (0:Int))),(.cst .jw)] 0]⟩),(.exit 0,⟨.drop::.drop::(.ptr 0 0 10)::dr 102 [],[.cells [(.cst (.int .i64 (0:Int))),(.cst (.int .u32 (0:Int))),(.cst (.str ([]:List UInt8))),(.cst (.int .i64 (0:Int))),(.cst (.str ([]:List UInt8))),(.cst (.int .i64 (0:Int))),.u8,(.cst (.int .u32 (0:Int))),(.cst (.int .u32 (0:Int))),(.cst .jw)] 0]⟩)] (lsT [.s,.s,.s,.i,.c] (fun x=>qO N N x.1 x.2.1 x.2.2.1 x.2.2.2.1 x.2.2.2.2.1) fun R o κ=>(zv o (fun a20=>κ 0 [.s a20.1,.i a20.2.1,.s a20.2.2.1,.c a20.2.2.2]) (fun b21=>κ 1 [.c b21])))
theorem zdm(N:Nat):Lp Tryz.f32 [1,1,1,1,1,1,0,1,0,0,1,2] (zal N):=jv zX (K54 N) .auto .nil [.s,.s,.s,.i,.c] [[.s,.i,.s,.c],[.c]] (fun m x=>qO N m x.1 x.2.1 x.2.2.1 x.2.2.2.1 x.2.2.2.2.1) ⟨fun x=>(Sum.inl (x.1,x.2.1,x.2.2.1,x.2.2.2.1)),fun x=>(Sum.inr x.1),()⟩ N
def T32(N:Nat):FT:=(32,qS [(.sl .u8)] [uR1] fun x=>ja N x.1)::(T54 N)
theorem K32(N:Nat):AT (T32 N):=fnA zX (K54 N) (.two .auto (.two .auto (.two .auto (.two .auto (.two .auto (.two .auto (.two (.two .auto (.two (.two (.two .auto (.one (.by_ (zal N)))) .auto) .auto)) .auto))))))) Tryz.func32 (.cons (zdm N) .nil)
def T19(N:Nat):FT:=(19,qS [uR1,uR1] [.bool] fun x=>zb N x.1 x.2.1)::(T32 N)
theorem K19(N:Nat):AT (T19 N):=fnA zX (K32 N) .auto Tryz.func19 .nil
def T95(N:Nat):FT:=(95,qS [.u8] [.bool] fun x=>kV N x.1)::(T19 N)
theorem K95(N:Nat):AT (T95 N):=fnA zX (K19 N) .auto Tryz.func95 .nil
def zad(N:Nat):LF:=zY [] ⟨.str::.drop::.drop::(.int .i64)::dr 13 [],[]⟩ [(.ret,⟨.drop::.drop::(.cst (.bool false))::dr 14 [],[]⟩),(.exit 0,⟨.str::dr 16 [],[]⟩)] (lsT [.s,.i] (fun x=>qM N N x.1 x.2.1) fun R o κ=>(zv o (fun a10=>κ 0 []) (fun b11=>κ 1 [.s b11])))
theorem zdj(N:Nat):Lp Tryz.f55 [1,0,1,2] (zad N):=jv zX (K95 N) .auto .nil [.s,.i] [[],[.s]] (fun m x=>qM N m x.1 x.2.1) ⟨fun _=>(Sum.inl ()),fun x=>(Sum.inr x.1),()⟩ N
def T55(N:Nat):FT:=(55,qS [.str] [.bool] fun x=>zr N x.1)::(T95 N)
theorem K55(N:Nat):AT (T55 N):=fnA zX (K95 N) (.two .auto (.two (.two .auto (.one (.by_ (zad N)))) .auto)) Tryz.func55 (.cons (zdj N) .nil)
def zxA(N:Nat):FT:=(122,qS [.u8] [.bool] fun x=>zfs N x.1)::(T55 N)
theorem zyd(N:Nat):AT (zxA N):=fnA zX (K55 N) .auto Tryz.func122 .nil
def T96(N:Nat):FT:=(96,qS [.u8] [.bool] fun x=>zah N x.1)::(zxA N)
theorem K96(N:Nat):AT (T96 N):=fnA zX (zyd N) .auto Tryz.func96 .nil
def zaS(N:Nat):LF:=zY [] ⟨.str::.drop::.drop::(.int .i64)::dr 13 [],[]⟩ [(.ret,⟨.drop::.drop::(.cst (.bool false))::dr 14 [],[]⟩),(.exit 0,⟨.str::dr 16 [],[]⟩)] (lsT [.s,.i] (fun x=>qW N N x.1 x.2.1) fun R o κ=>(zv o (fun a10=>κ 0 []) (fun b11=>κ 1 [.s b11])))
theorem zdP(N:Nat):Lp Tryz.f56 [1,0,1,2] (zaS N):=jv zX (K96 N) .auto .nil [.s,.i] [[],[.s]] (fun m x=>qW N m x.1 x.2.1) ⟨fun _=>(Sum.inl ()),fun x=>(Sum.inr x.1),()⟩ N
def T56(N:Nat):FT:=(56,qS [.str] [.bool] fun x=>zN N x.1)::(T96 N)
theorem K56(N:Nat):AT (T56 N):=fnA zX (K96 N) (.two .auto (.two (.two .auto (.one (.by_ (zaS N)))) .auto)) Tryz.func56 (.cons (zdP N) .nil)
def T33(N:Nat):FT:=(33,qS [uR1] [.bool] fun x=>wY N x.1)::(T56 N)
theorem K33(N:Nat):AT (T33 N):=fnA zX (K56 N) .auto Tryz.func33 .nil
def T57(N:Nat):FT:=(57,qS [(.int .u32)] [.str] fun x=>ql N x.1)::(T33 N)
theorem K57(N:Nat):AT (T57 N):=fnA zX (K33 N) .auto Tryz.func57 .nil
def zaW(N:Nat):LF:=zY [] ⟨(.int .i64)::.drop::.drop::.str::(.int .i64)::dr 19 [],[]⟩ [(.exit 0,⟨dr 3 (.str::dr 20 []),[]⟩)] (lsT [.i,.s,.i] (fun x=>wD N N x.1 x.2.1 x.2.2.1) fun R o κ=>κ 0 [.s o])
theorem zdR(N:Nat):Lp Tryz.f59 [1,1,0,1,2] (zaW N):=jv zX (K57 N) .auto .nil [.i,.s,.i] [[.s]] (fun m x=>wD N m x.1 x.2.1 x.2.2.1) ⟨fun x=>x.1,()⟩ N
def T59(N:Nat):FT:=(59,qS [(.int .i64)] [.str] fun x=>wK N x.1)::(T57 N)
theorem K59(N:Nat):AT (T59 N):=fnA zX (K57 N) (.two .auto (.two .auto (.two (.two .auto (.one (.by_ (zaW N)))) .auto))) Tryz.func59 (.cons (zdR N) .nil)
def T97(N:Nat):FT:=(97,qS [(.sl .u8)] [(.sl .u8)] fun x=>zT N x.1)::(T59 N)
theorem K97(N:Nat):AT (T97 N):=fnA zX (K59 N) .auto Tryz.func97 .nil
def T58(N:Nat):FT:=(58,qS [uR1] [.str] fun x=>xP N x.1)::(T97 N)
theorem K58(N:Nat):AT (T58 N):=fnA zX (K97 N) .auto Tryz.func58 .nil
def T35(N:Nat):FT:=(35,qS [uR1] [.str] fun x=>j5 N x.1)::(T58 N)
theorem K35(N:Nat):AT (T35 N):=fnA zX (K58 N) .auto Tryz.func35 .nil
def T22(N:Nat):FT:=(22,qS [(.sl .u8),(.int .i64)] [uR1,(.int .i64),.bool] fun x=>wZ N x.1 x.2.1)::(T35 N)
theorem K22(N:Nat):AT (T22 N):=fnA zX (K35 N) .auto Tryz.func22 .nil
def kO(N:Nat):LF:=zY [(4,uR1)] ⟨(.isl .u8)::dr 3 ((.gs 0 1)::(.int .i64)::dr 19 []),[.seq uR1 1 0 false]⟩ [(.ret,⟨.drop::.drop::(.gs 0 1)::(.int .i64)::dr 21 [],[.seq uR1 1 0 false]⟩)] (lsT [(.l .u8),.i,(.l uR1)] (fun x=>qc N N x.1 x.2.1 x.2.2.1) fun R o κ=>κ 0 [.i o.1,.l uR1 o.2])
def kQ(N:Nat):LF:=zY [] ⟨(.gs 0 1)::(.fn 18 [] [])::dr 5 ((.int .i64)::(.int .i64)::dr 10 []),[.seq uR1 1 0 true]⟩ [(.ret,⟨dr 4 ((.int .i64)::dr 14 []),[.seq uR1 1 0 true]⟩),(.exit 0,⟨dr 19 [],[.seq uR1 1 0 true]⟩)] (lsT [.i,.i,(.l uR1)] (fun x=>qd N N x.1 x.2.1 x.2.2.1) fun R o κ=>(zv o (fun a25=>κ 0 [.i a25.1,.l uR1 a25.2]) (fun b26=>κ 1 [.l uR1 b26])))
def kS(N:Nat):LF:=zY [] ⟨(.gs 0 1)::(.fn 18 [] [])::dr 3 ((.int .i64)::(.int .i64)::dr 35 []),[.seq uR1 1 0 true]⟩ [(.exit 0,⟨(.gs 0 1)::dr 4 ((.int .i64)::dr 36 []),[.seq uR1 1 0 true]⟩)] (lsT [.i,.i,(.l uR1)] (fun x=>zS N N x.1 x.2.1 x.2.2.1) fun R o κ=>κ 0 [.i o.1,.l uR1 o.2])
theorem zck(N:Nat):Lp Tryz.f12 [1,1,1,2] (kO N):=jv zX (K22 N) .auto .nil [(.l .u8),.i,(.l uR1)] [[.i,(.l uR1)]] (fun m x=>qc N m x.1 x.2.1 x.2.2.1) ⟨fun x=>(x.1,x.2.1),()⟩ N
theorem zcl(N:Nat):Lp Tryz.f23 [1,0,1,2] (kQ N):=jv zX (K22 N) .auto .nil [.i,.i,(.l uR1)] [[.i,(.l uR1)],[(.l uR1)]] (fun m x=>qd N m x.1 x.2.1 x.2.2.1) ⟨fun x=>(Sum.inl (x.1,x.2.1)),fun x=>(Sum.inr x.1),()⟩ N
theorem zcm(N:Nat):Lp Tryz.f17 [1,1,1,0,1,2] (kS N):=jv zX (K22 N) .auto .nil [.i,.i,(.l uR1)] [[.i,(.l uR1)]] (fun m x=>zS N m x.1 x.2.1 x.2.2.1) ⟨fun x=>(x.1,x.2.1),()⟩ N
def T7(N:Nat):FT:=(7,qS [(.sl .u8)] [(.sl uR1)] fun x=>wT N x.1)::(T22 N)
theorem K7(N:Nat):AT (T7 N):=fnA zX (K22 N) (.two .auto (.two (.cal 1 12 (.two .auto (.two .auto (.two .auto (.one (.by_ (kO N)))))) .auto) (.two (.cal 1 17 (.two .auto (.two (.cal 2 23 (.two .auto (.two (.two .auto (.one (.by_ (kQ N)))) .auto)) .auto) (.two .auto (.two (.two .auto (.one (.by_ (kS N)))) .auto)))) .auto) .auto))) Tryz.func7 (.cons (zck N) (.cons (zcl N) (.cons (zcm N) .nil)))
def zbw(N:Nat):LF:=zY [(4,uR1)] ⟨(.isl .u8)::dr 3 ((.gs 0 1)::(.int .i64)::dr 19 []),[.seq uR1 1 0 false]⟩ [(.ret,⟨.drop::.drop::(.gs 0 1)::(.int .i64)::dr 21 [],[.seq uR1 1 0 false]⟩)] (lsT [(.l .u8),.i,(.l uR1)] (fun x=>zJ N N x.1 x.2.1 x.2.2.1) fun R o κ=>κ 0 [.i o.1,.l uR1 o.2])
theorem zeN(N:Nat):Lp Tryz.f12 [1,1,1,2] (zbw N):=jv zX (K7 N) .auto .nil [(.l .u8),.i,(.l uR1)] [[.i,(.l uR1)]] (fun m x=>zJ N m x.1 x.2.1 x.2.2.1) ⟨fun x=>(x.1,x.2.1),()⟩ N
def T12(N:Nat):FT:=(12,qS [(.sl .u8)] [(.sl uR1),(.int .i64)] fun x=>zdp N x.1)::(T7 N)
theorem K12(N:Nat):AT (T12 N):=fnA zX (K7 N) (.two .auto (.two .auto (.two .auto (.one (.by_ (zbw N)))))) Tryz.func12 (.cons (zeN N) .nil)
def zbq(N:Nat):LF:=zY [(4,uR1)] ⟨(.isl .u8)::dr 3 ((.gs 0 1)::(.int .i64)::dr 19 []),[.seq uR1 1 0 false]⟩ [(.ret,⟨.drop::.drop::(.gs 0 1)::(.int .i64)::dr 21 [],[.seq uR1 1 0 false]⟩)] (lsT [(.l .u8),.i,(.l uR1)] (fun x=>qx N N x.1 x.2.1 x.2.2.1) fun R o κ=>κ 0 [.i o.1,.l uR1 o.2])
theorem zeK(N:Nat):Lp Tryz.f15 [1,1,1,2] (zbq N):=jv zX (K12 N) .auto .nil [(.l .u8),.i,(.l uR1)] [[.i,(.l uR1)]] (fun m x=>qx N m x.1 x.2.1 x.2.2.1) ⟨fun x=>(x.1,x.2.1),()⟩ N
def T15(N:Nat):FT:=(15,qS [(.sl .u8)] [(.sl uR1),(.int .i64)] fun x=>zak N x.1)::(T12 N)
theorem K15(N:Nat):AT (T15 N):=fnA zX (K12 N) (.two .auto (.two .auto (.two .auto (.one (.by_ (zbq N)))))) Tryz.func15 (.cons (zeK N) .nil)
def kX(N:Nat):LF:=zY [] ⟨(.isl uR1)::(.isl uR1)::dr 3 ((.int .i64)::dr 21 []),[]⟩ [(.ret,⟨dr 4 ((.cst (.bool false))::dr 22 []),[]⟩),(.exit 0,⟨dr 27 [],[]⟩)] (lsT [(.l uR1),(.l uR1),.i] (fun x=>qk N N x.1 x.2.1 x.2.2.1) fun R o κ=>(zv o (fun a12=>κ 0 []) (fun b13=>κ 1 [])))
theorem zcn(N:Nat):Lp Tryz.f8 [1,1,0,1,2] (kX N):=jv zX (K15 N) .auto .nil [(.l uR1),(.l uR1),.i] [[],[]] (fun m x=>qk N m x.1 x.2.1 x.2.2.1) ⟨fun _=>(Sum.inl ()),fun _=>(Sum.inr ()),()⟩ N
def T8(N:Nat):FT:=(8,qS [(.sl uR1),(.sl uR1)] [.bool] fun x=>wE N x.1 x.2.1)::(T15 N)
theorem K8(N:Nat):AT (T8 N):=fnA zX (K15 N) (.two .auto (.two .auto (.two (.two .auto (.one (.by_ (kX N)))) .auto))) Tryz.func8 (.cons (zcn N) .nil)
def T14(N:Nat):FT:=(14,qS [(.int .i64),uR1] [(.int .i64),.bool] fun x=>kf N x.1 x.2.1)::(T8 N)
theorem K14(N:Nat):AT (T14 N):=fnA zX (K8 N) .auto Tryz.func14 .nil
def T16(N:Nat):FT:=(16,qS [(.int .i64),uR1] [(.int .i64),.bool] fun x=>wA N x.1 x.2.1)::(T14 N)
theorem K16(N:Nat):AT (T16 N):=fnA zX (K14 N) .auto Tryz.func16 .nil
def xF(N:Nat):LF:=zY [] ⟨(.isl .u8)::dr 4 ((.int .i64)::(.ptr 0 0 1)::(.fn 13 [] [(.ptr 0 0 1)])::dr 8 ((.isl uR1)::(.int .i64)::(.int .i64)::dr 13 [])),[.cells [(.int .i64)] 0]⟩ [(.ret,⟨.drop::.drop::(.cst (.int .i64 (0:Int)))::(.cst (.bool false))::dr 28 [],[.cells [(.int .i64)] 0]⟩),(.exit 0,⟨(.isl .u8)::dr 4 ((.int .i64)::(.ptr 0 0 1)::dr 25 []),[.cells [(.int .i64)] 0]⟩)] (lsT [(.l .u8),.i,(.l uR1),.i,.i,.i] (fun x=>zQ N N x.1 x.2.1 x.2.2.1 x.2.2.2.1 x.2.2.2.2.1 x.2.2.2.2.2.1) fun R o κ=>(zv o (fun a27=>κ 0 [.i a27]) (fun b28=>κ 1 [.l .u8 b28.1,.i b28.2.1,.i b28.2.2])))
theorem zc4(N:Nat):Lp Tryz.f5 [1,1,1,1,0,1,2] (xF N):=jv zX (K16 N) .auto .nil [(.l .u8),.i,(.l uR1),.i,.i,.i] [[.i],[(.l .u8),.i,.i]] (fun m x=>zQ N m x.1 x.2.1 x.2.2.1 x.2.2.2.1 x.2.2.2.2.1 x.2.2.2.2.2.1) ⟨fun x=>(Sum.inl x.1),fun x=>(Sum.inr (x.1,x.2.1,x.2.2.1)),()⟩ N
def T5(N:Nat):FT:=(5,qS [(.sl .u8)] [(.int .i64),.bool] fun x=>kE N x.1)::(T16 N)
theorem K5(N:Nat):AT (T5 N):=fnA zX (K16 N) (.two .auto (.two .auto (.two .auto (.two .auto (.two (.two .auto (.one (.by_ (xF N)))) .auto))))) Tryz.func5 (.cons (zc4 N) .nil)
def xJ(N:Nat):LF:=zY [] ⟨dr 4 ((.isl uR1)::.drop::(.int .i64)::(.int .i64)::dr 36 []),[]⟩ [(.ret,⟨.drop::.drop::(.cst (.int .i64 (0:Int)))::(.cst (.bool false))::dr 40 [],[]⟩),(.exit 0,⟨dr 6 ((.int .i64)::dr 37 []),[]⟩)] (lsT [(.l uR1),.i,.i] (fun x=>zR N N x.1 x.2.1 x.2.2.1) fun R o κ=>(zv o (fun a15=>κ 0 []) (fun b16=>κ 1 [.i b16])))
theorem zc6(N:Nat):Lp Tryz.f6 [1,1,1,1,0,1,2] (xJ N):=jv zX (K5 N) .auto .nil [(.l uR1),.i,.i] [[],[.i]] (fun m x=>zR N m x.1 x.2.1 x.2.2.1) ⟨fun _=>(Sum.inl ()),fun x=>(Sum.inr x.1),()⟩ N
def T6(N:Nat):FT:=(6,qS [(.sl .u8)] [(.int .i64),.bool] fun x=>kH N x.1)::(T5 N)
theorem K6(N:Nat):AT (T6 N):=fnA zX (K5 N) (.two .auto (.two .auto (.two .auto (.two .auto (.two (.two .auto (.one (.by_ (xJ N)))) .auto))))) Tryz.func6 (.cons (zc6 N) .nil)
def k8(N:Nat):LF:=zY [(5,uR1)] ⟨dr 3 ((.isl uR1)::.drop::(.gs 0 1)::(.int .i64)::dr 33 []),[.seq uR1 1 0 false]⟩ [(.exit 0,⟨dr 5 ((.gs 0 1)::dr 34 []),[.seq uR1 1 0 false]⟩)] (lsT [(.l uR1),.i,(.l uR1)] (fun x=>qm N N x.1 x.2.1 x.2.2.1) fun R o κ=>κ 0 [.l uR1 o])
theorem zcq(N:Nat):Lp Tryz.f9 [1,1,1,0,1,2] (k8 N):=jv zX (K6 N) .auto .nil [(.l uR1),.i,(.l uR1)] [[(.l uR1)]] (fun m x=>qm N m x.1 x.2.1 x.2.2.1) ⟨fun x=>x.1,()⟩ N
def T9(N:Nat):FT:=(9,qS [(.sl .u8)] [(.sl uR1)] fun x=>ka N x.1)::(T6 N)
theorem K9(N:Nat):AT (T9 N):=fnA zX (K6 N) (.two .auto (.two .auto (.two .auto (.two (.two .auto (.one (.by_ (k8 N)))) .auto)))) Tryz.func9 (.cons (zcq N) .nil)
def jA(N:Nat):FT:=(T9 N)
theorem zbS(N:Nat):zn6 Tryz.prog glA (zhL (jA N)) hkA:=zuu zX rfl (K9 N)
def jB(N:Nat):Pl:=.auto
theorem zcg(N:Nat)(x:El (zce [(.sl .u8)])):zaF Tryz.prog glA (zhL (jA N)) 1500 (jB N) 3 (j8 [(.sl .u8)] x) [] (zdF [.bool])=qF N x.1:=by kernel_rfl
theorem zcf(N:Nat):∀ fn b,Tryz.prog.funcs[3]?=some fn->fn.body=some b->zbT Tryz.prog glA hkA (jB N) b:=zi6 Tryz.func3 (by kernel_rfl) .nil
end Go.Proofs.YtokiphiakdfipaaGreatDoor
