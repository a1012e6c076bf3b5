/- The functions of the law: their models, and that the program does what they say. -/
import Derived.Test.YtlfojfedfhpoiaaGreatDoorKwHp
import Derived.Test.YtlfojfedfhpoiaaGreatDoorB5
import Derived.Test.YtlfojfedfhpoiaaGreatDoorB6
set_option linter.unusedVariables false
set_option linter.unusedSimpArgs false
set_option maxRecDepth 100000
namespace Go.Proofs.YtlfojfedfhpoiaaGreatDoor
open Go.Proofs.Model Go Go.Gx Go.Mx Go.Sx
def hkA:qx:=zC (zC (zC (zC (zC (zC (zke tab) 9 znh) 15 kI) 28 zf8) 178 zdh) 188 (zeR 9)) 204 zfE
theorem zQ:zna Tryz.prog hkA [204,188,178,28,15,9]:=zaF (zaF (zaF (zaF (zaF (zaF (znr (by kernel_rfl)) 9 znh) 15 _) 28 _) 178 _) 188 _) 204 _
abbrev AT(T:FT):Prop:=zh5 Tryz.prog glA hkA T
abbrev Lp(fn:Func)(p:List Nat)(g:LF):Prop:=zh8 Tryz.prog glA hkA (.loop (roundOf fn p)) g
def T0:FT:=[(9,qp [] [.bool] fun _=>some (true,())),(15,ziQ),(28,zpx),(178,zlE),(188,zmN),(204,zmf),(114,zp8),(116,zjv),(219,zjv),(234,zlk)]
theorem K0:zh5 Tryz.prog glA hkA T0:=⟨zm9 rfl,zgp rfl,ziB rfl,zg4 rfl,zhT rfl,zhE rfl,ziX rfl,zdd rfl,zdd rfl,zgT rfl,trivial⟩
def T92(N:Nat):FT:=(92,qp [.u8] [.bool] fun x=>xr N x.1)::T0
theorem K92(N:Nat):AT (T92 N):=fnA zQ K0 .auto Tryz.func92 .nil
def T48(N:Nat):FT:=(48,qp [.u8] [.bool] fun x=>zaA N x.1)::(T92 N)
theorem K48(N:Nat):AT (T48 N):=fnA zQ (K92 N) .auto Tryz.func48 .nil
def zta(N:Nat):FT:=(176,qp [.u8] [.bool] fun x=>xq N x.1)::(T48 N)
theorem ztI(N:Nat):AT (zta N):=fnA zQ (K48 N) .auto Tryz.func176 .nil
def ztg(N:Nat):FT:=(194,qp [(.int .i64)] [.str] fun x=>jG N x.1)::(zta N)
theorem ztL(N:Nat):AT (ztg N):=fnA zQ (ztI N) .auto Tryz.func194 .nil
def ztm(N:Nat):FT:=(212,qp [(.int .u64)] [(.int .i64)] fun x=>qU N x.1)::(ztg N)
theorem ztQ(N:Nat):AT (ztm N):=fnA zQ (ztL N) .auto Tryz.func212 .nil
def ztl(N:Nat):FT:=(211,qp [(.int .i64)] [(.int .i64)] fun x=>jq N x.1)::(ztm N)
theorem ztP(N:Nat):AT (ztl N):=fnA zQ (ztQ N) .auto Tryz.func211 .nil
def ztn(N:Nat):FT:=(213,qp [.bool] [(.int .i64)] fun x=>jo N x.1)::(ztl N)
theorem ztR(N:Nat):AT (ztn N):=fnA zQ (ztP N) .auto Tryz.func213 .nil
def zth(N:Nat):FT:=(195,qp [(.int .u64)] [(.int .i64)] fun x=>zf N x.1)::(ztn N)
theorem zsO(N:Nat):AT (zth N):=fnA zQ (ztR N) .auto Tryz.func195 .nil
def wV(N:Nat):LF:=zS [] ⟨(.sl 0 0 false)::(.int .u64)::.drop::.drop::(.int .i64)::dr 162 [],[.seq .u8 0 0 true]⟩ [(.exit 0,⟨(.sl 0 0 false)::(.int .u64)::.drop::.drop::(.int .i64)::dr 162 [],[.seq .u8 0 0 true]⟩)] (lsT [.n,.n,.i,.i,(.l .u8)] (fun x=>za N N x.1 x.2.1 x.2.2.1 x.2.2.2.1 x.2.2.2.2.1) fun R o κ=>κ 0 [.n o.1,.n o.2.1,.i o.2.2.1,.i o.2.2.2.1,.l .u8 o.2.2.2.2])
theorem zbd(N:Nat):Lp Tryz.f196 [1,0,2] (wV N):=jK zQ (zsO N) .auto .nil [.n,.n,.i,.i,(.l .u8)] [[.n,.n,.i,.i,(.l .u8)]] (fun m x=>za N m x.1 x.2.1 x.2.2.1 x.2.2.2.1 x.2.2.2.2.1) ⟨fun x=>(x.1,x.2.1,x.2.2.1,x.2.2.2.1,x.2.2.2.2.1),()⟩ N
def zsP(N:Nat):FT:=(100,qp [(.int .u32)] [.str] fun x=>ze N x.1)::(zth N)
theorem ztu(N:Nat):AT (zsP N):=fnA zQ (zsO N) (.two .auto (.two (.cal 2 148 (.two .auto (.two (.cal 2 177 (.two .auto (.two (.two .auto (.two (.two .auto (.two .auto (.two .auto (.two (.cal 3 196 (.two .auto (.two (.one (.by_ (wV N))) .auto)) .auto) .auto)))) .auto)) .auto)) .auto) .auto)) .auto) .auto)) Tryz.func100 (.cons (zbd N) .nil)
def ztd(N:Nat):FT:=(181,qp [.str] [(.int .u32),.bool] fun x=>wJ N x.1)::(zsP N)
theorem ztK(N:Nat):AT (ztd N):=fnA zQ (ztu N) .auto Tryz.func181 .nil
def zte(N:Nat):FT:=(182,qp [(.sl .u8)] [(.sl .u8)] fun x=>zF N x.1)::(ztd N)
theorem zsM(N:Nat):AT (zte N):=zub zQ (ztK N) .auto Tryz.func182 .nil
def kK(N:Nat):LF:=zS [] ⟨(.fn 124 [] [])::(.ptr 1 0 1)::dr 3 ((.gs 0 0)::(.int .i64)::(.int .i64)::dr 11 []),[.seq .u8 0 0 true,.cells [(.gs 0 0)] 0]⟩ [(.exit 0,⟨dr 19 [],[.seq .u8 0 0 true,.cells [(.gs 0 0)] 0]⟩)] (lsT [.i,.i,(.l .u8)] (fun x=>jz N N x.1 x.2.1 x.2.2.1) fun R o κ=>κ 0 [.l .u8 o])
theorem zcA(N:Nat):Lp Tryz.f123 [1,2] (kK N):=jK zQ (zsM N) .auto .nil [.i,.i,(.l .u8)] [[(.l .u8)]] (fun m x=>jz N m x.1 x.2.1 x.2.2.1) ⟨fun x=>x.1,()⟩ N
def T81(N:Nat):FT:=(81,qp [.str] [.str] fun x=>zc7 N x.1)::(zte N)
theorem K81(N:Nat):AT (T81 N):=fnA zQ (zsM N) (.two .auto (.two .auto (.two .auto (.two (.cal 1 123 (.two .auto (.one (.by_ (kK N)))) .auto) .auto)))) Tryz.func81 (.cons (zcA N) .nil)
def qf(N:Nat):LF:=zS [] ⟨(.isl .str)::.str::dr 5 ((.int .i64)::(.int .i64)::dr 10 []),[]⟩ [(.ret,⟨dr 4 ((.int .i64)::dr 14 []),[]⟩),(.exit 0,⟨dr 19 [],[]⟩)] (lsT [(.l .str),.s,.i,.i] (fun x=>zr N N x.1 x.2.1 x.2.2.1 x.2.2.2.1) fun R o κ=>(zw o (fun a11=>κ 0 [.i a11]) (fun b12=>κ 1 [])))
theorem jE(N:Nat):Lp Tryz.f80 [1,0,1,2] (qf N):=jK zQ (K81 N) .auto .nil [(.l .str),.s,.i,.i] [[.i],[]] (fun m x=>zr N m x.1 x.2.1 x.2.2.1 x.2.2.2.1) ⟨fun x=>(Sum.inl x.1),fun _=>(Sum.inr ()),()⟩ N
def T80(N:Nat):FT:=(80,qp [(.sl .str),.str] [(.int .i64)] fun x=>qE N x.1 x.2.1)::(T81 N)
theorem K80(N:Nat):AT (T80 N):=fnA zQ (K81 N) (.two .auto (.two (.two .auto (.one (.by_ (qf N)))) .auto)) Tryz.func80 (.cons (jE N) .nil)
def T96(N:Nat):FT:=(96,qp [.u8] [.bool] fun x=>xo N x.1)::(T80 N)
theorem K96(N:Nat):AT (T96 N):=fnA zQ (K80 N) .auto Tryz.func96 .nil
def xO(N:Nat):LF:=zS [(26388279066627,.u8)] ⟨.u8::.drop::.drop::(.gs 0 1572865)::.drop::.drop::(.int .i64)::dr 14 [],[.seq .u8 1572865 0 false]⟩ [(.exit 0,⟨dr 3 ((.gs 0 1572865)::dr 17 []),[.seq .u8 1572865 0 false]⟩)] (lsT [.c,.i,(.l .u8)] (fun x=>j0 N N x.1 x.2.1 x.2.2.1) fun R o κ=>κ 0 [.l .u8 o])
theorem zdA(N:Nat):Lp Tryz.f98 [1,1,0,1,2] (xO N):=jK zQ (K96 N) .auto .nil [.c,.i,(.l .u8)] [[(.l .u8)]] (fun m x=>j0 N m x.1 x.2.1 x.2.2.1) ⟨fun x=>x.1,()⟩ N
def T98(N:Nat):FT:=(98,qp [.u8] [(.sl .u8)] fun x=>zd8 N x.1)::(T96 N)
theorem K98(N:Nat):AT (T98 N):=fnA zQ (K96 N) (.two .auto (.two .auto (.two (.two .auto (.one (.by_ (xO N)))) .auto))) Tryz.func98 (.cons (zdA N) .nil)
def xP(N:Nat):LF:=zS [] ⟨.u8::dr 4 ((.gs 0 0)::(.cst (.int .i64 (5:Int)))::(.int .i64)::dr 10 []),[.seq .str 0 0 true]⟩ [(.ret,⟨.drop::.drop::.str::dr 15 [],[.seq .str 0 0 true]⟩),(.exit 0,⟨dr 18 [],[.seq .str 0 0 true]⟩)] (lsT [.c,.i,(.l .str)] (fun x=>j1 N N x.1 x.2.1 x.2.2.1) fun R o κ=>(zw o (fun a9=>κ 0 [.s a9.1,.l .str a9.2]) (fun b10=>κ 1 [.l .str b10])))
theorem zdC(N:Nat):Lp Tryz.f99 [1,0,1,2] (xP N):=jK zQ (K98 N) .auto .nil [.c,.i,(.l .str)] [[.s,(.l .str)],[(.l .str)]] (fun m x=>j1 N m x.1 x.2.1 x.2.2.1) ⟨fun x=>(Sum.inl (x.1,x.2.1)),fun x=>(Sum.inr x.1),()⟩ N
def T99(N:Nat):FT:=(99,qp [.u8] [.str] fun x=>zd9 N x.1)::(T98 N)
theorem K99(N:Nat):AT (T99 N):=fnA zQ (K98 N) (.two .auto (.two (.two .auto (.one (.by_ (xP N)))) .auto)) Tryz.func99 (.cons (zdC N) .nil)
def zsR(N:Nat):FT:=(102,qp [.str] [(.int .i64),.bool] fun x=>za1 N x.1)::(T99 N)
theorem ztv(N:Nat):AT (zsR N):=fnA zQ (K99 N) .auto Tryz.func102 .nil
def zs7(N:Nat):FT:=(153,qp [.u8] [.bool] fun x=>kk N x.1)::(zsR N)
theorem ztF(N:Nat):AT (zs7 N):=fnA zQ (ztv N) .auto Tryz.func153 .nil
def zsT(N:Nat):FT:=(105,qp [.u8] [.bool] fun x=>zbj N x.1)::(zs7 N)
theorem ztx(N:Nat):AT (zsT N):=fnA zQ (ztF N) .auto Tryz.func105 .nil
def ztf(N:Nat):FT:=(183,qp [.u8] [.bool] fun x=>zab N x.1)::(zsT N)
theorem zsN(N:Nat):AT (ztf N):=fnA zQ (ztx N) .auto Tryz.func183 .nil
def wD(N:Nat):LF:=zS [] ⟨(.int .u32)::.drop::.drop::.str::dr 18 [],[]⟩ [(.exit 0,⟨(.int .u32)::.drop::.drop::.str::dr 18 [],[]⟩)] (lsT [.i,.s] (fun x=>qC N N x.1 x.2.1) fun R o κ=>κ 0 [.i o.1,.s o.2])
theorem zaT(N:Nat):Lp Tryz.f109 [1,1,0,2] (wD N):=jK zQ (zsN N) .auto .nil [.i,.s] [[.i,.s]] (fun m x=>qC N m x.1 x.2.1) ⟨fun x=>(x.1,x.2.1),()⟩ N
def zsX(N:Nat):FT:=(109,qp [(.int .u32)] [.str] fun x=>jC N x.1)::(ztf N)
theorem zsG(N:Nat):AT (zsX N):=fnA zQ (zsN N) (.two .auto (.two .auto (.two (.one (.by_ (wD N))) .auto))) Tryz.func109 (.cons (zaT N) .nil)
def wY(N:Nat):LF:=zS [] ⟨.str::dr 3 ((.int .u64)::(.int .i64)::dr 38 []),[]⟩ [(.ret,⟨.drop::.drop::(.cst (.int .u32 (0:Int)))::(.cst (.bool false))::dr 40 [],[]⟩),(.exit 0,⟨.str::dr 3 ((.int .u64)::dr 39 []),[]⟩)] (lsT [.s,.i,.i] (fun x=>qX N N x.1 x.2.1 x.2.2.1) fun R o κ=>(zw o (fun a8=>κ 0 []) (fun b9=>κ 1 [.s b9.1,.i b9.2])))
theorem zbh(N:Nat):Lp Tryz.f155 [1,1,1,0,1,2] (wY N):=jK zQ (zsG N) .auto .nil [.s,.i,.i] [[],[.s,.i]] (fun m x=>qX N m x.1 x.2.1 x.2.2.1) ⟨fun _=>(Sum.inl ()),fun x=>(Sum.inr (x.1,x.2.1)),()⟩ N
def zs9(N:Nat):FT:=(155,qp [.str] [(.int .u32),.bool] fun x=>za3 N x.1)::(zsX N)
theorem ztH(N:Nat):AT (zs9 N):=fnA zQ (zsG N) (.two .auto (.two .auto (.two .auto (.two (.two .auto (.one (.by_ (wY N)))) .auto)))) Tryz.func155 (.cons (zbh N) .nil)
def T65(N:Nat):FT:=(65,qp [(.int .i64)] [.str] fun x=>wk N x.1)::(zs9 N)
theorem K65(N:Nat):AT (T65 N):=fnA zQ (ztH N) .auto Tryz.func65 .nil
def zsW(N:Nat):FT:=(108,qp [(.int .i64)] [.str] fun x=>zad N x.1)::(T65 N)
theorem ztz(N:Nat):AT (zsW N):=fnA zQ (K65 N) .auto Tryz.func108 .nil
def zsZ(N:Nat):FT:=(111,qp [(.int .i64)] [.str] fun x=>wv N x.1)::(zsW N)
theorem zsI(N:Nat):AT (zsZ N):=fnA zQ (ztz N) .auto Tryz.func111 .nil
def ko(N:Nat):LF:=zS [] ⟨.drop::.drop::(.ptr 0 0 9)::(.ptr 1 0 9)::.drop::(.int .i64)::dr 81 [],[.cells [.str,(.int .i64),.str,(.isl (.pair (.int .u32) (.int .u32))),(.int .i64),(.int .i64),.bool,.u8,(.isl .u8)] 0,.cells [.str,(.int .i64),.str,(.isl (.pair (.int .u32) (.int .u32))),(.int .i64),(.int .i64),.bool,.u8,(.isl .u8)] 0]⟩ [(.ret,⟨dr 4 ((.cst (.bool false))::dr 82 []),[.cells [.str,(.int .i64),.str,(.isl (.pair (.int .u32) (.int .u32))),(.int .i64),(.int .i64),.bool,.u8,(.isl .u8)] 0,.cells [.str,(.int .i64),.str,(.isl (.pair (.int .u32) (.int .u32))),(.int .i64),(.int .i64),.bool,.u8,(.isl .u8)] 0]⟩),(.exit 0,⟨.drop::.drop::(.ptr 0 0 9)::(.ptr 1 0 9)::dr 83 [],[.cells [.str,(.int .i64),.str,(.isl (.pair (.int .u32) (.int .u32))),(.int .i64),(.int .i64),.bool,.u8,(.isl .u8)] 0,.cells [.str,(.int .i64),.str,(.isl (.pair (.int .u32) (.int .u32))),(.int .i64),(.int .i64),.bool,.u8,(.isl .u8)] 0]⟩)] (lsT [.i,.s,.i,.s,(.l (.pair (.int .u32) (.int .u32))),.i,.i,.b,.c,(.l .u8),.s,.i,.s,(.l (.pair (.int .u32) (.int .u32))),.i,.i,.b,.c,(.l .u8)] (fun x=>jl N N x.1 x.2.1 x.2.2.1 x.2.2.2.1 x.2.2.2.2.1 x.2.2.2.2.2.1 x.2.2.2.2.2.2.1 x.2.2.2.2.2.2.2.1 x.2.2.2.2.2.2.2.2.1 x.2.2.2.2.2.2.2.2.2.1 x.2.2.2.2.2.2.2.2.2.2.1 x.2.2.2.2.2.2.2.2.2.2.2.1 x.2.2.2.2.2.2.2.2.2.2.2.2.1 x.2.2.2.2.2.2.2.2.2.2.2.2.2.1 x.2.2.2.2.2.2.2.2.2.2.2.2.2.2.1 x.2.2.2.2.2.2.2.2.2.2.2.2.2.2.2.1 x.2.2.2.2.2.2.2.2.2.2.2.2.2.2.2.2.1 x.2.2.2.2.2.2.2.2.2.2.2.2.2.2.2.2.2.1 x.2.2.2.2.2.2.2.2.2.2.2.2.2.2.2.2.2.2.1) fun R o κ=>(zw o (fun a41=>κ 0 [.s a41.1,.i a41.2.1,.s a41.2.2.1,.l (.pair (.int .u32) (.int .u32)) a41.2.2.2.1,.i a41.2.2.2.2.1,.i a41.2.2.2.2.2.1,.b a41.2.2.2.2.2.2.1,.c a41.2.2.2.2.2.2.2.1,.l .u8 a41.2.2.2.2.2.2.2.2.1,.s a41.2.2.2.2.2.2.2.2.2.1,.i a41.2.2.2.2.2.2.2.2.2.2.1,.s a41.2.2.2.2.2.2.2.2.2.2.2.1,.l (.pair (.int .u32) (.int .u32)) a41.2.2.2.2.2.2.2.2.2.2.2.2.1,.i a41.2.2.2.2.2.2.2.2.2.2.2.2.2.1,.i a41.2.2.2.2.2.2.2.2.2.2.2.2.2.2.1,.b a41.2.2.2.2.2.2.2.2.2.2.2.2.2.2.2.1,.c a41.2.2.2.2.2.2.2.2.2.2.2.2.2.2.2.2.1,.l .u8 a41.2.2.2.2.2.2.2.2.2.2.2.2.2.2.2.2.2]) (fun b42=>κ 1 [.s b42.1,.i b42.2.1,.s b42.2.2.1,.l (.pair (.int .u32) (.int .u32)) b42.2.2.2.1,.i b42.2.2.2.2.1,.i b42.2.2.2.2.2.1,.b b42.2.2.2.2.2.2.1,.c b42.2.2.2.2.2.2.2.1,.l .u8 b42.2.2.2.2.2.2.2.2.1,.s b42.2.2.2.2.2.2.2.2.2.1,.i b42.2.2.2.2.2.2.2.2.2.2.1,.s b42.2.2.2.2.2.2.2.2.2.2.2.1,.l (.pair (.int .u32) (.int .u32)) b42.2.2.2.2.2.2.2.2.2.2.2.2.1,.i b42.2.2.2.2.2.2.2.2.2.2.2.2.2.1,.i b42.2.2.2.2.2.2.2.2.2.2.2.2.2.2.1,.b b42.2.2.2.2.2.2.2.2.2.2.2.2.2.2.2.1,.c b42.2.2.2.2.2.2.2.2.2.2.2.2.2.2.2.2.1,.l .u8 b42.2.2.2.2.2.2.2.2.2.2.2.2.2.2.2.2.2])))
theorem zbT(N:Nat):Lp Tryz.f17 [1,1,0,1,2] (ko N):=jK zQ (zsI N) .auto .nil [.i,.s,.i,.s,(.l (.pair (.int .u32) (.int .u32))),.i,.i,.b,.c,(.l .u8),.s,.i,.s,(.l (.pair (.int .u32) (.int .u32))),.i,.i,.b,.c,(.l .u8)] [[.s,.i,.s,(.l (.pair (.int .u32) (.int .u32))),.i,.i,.b,.c,(.l .u8),.s,.i,.s,(.l (.pair (.int .u32) (.int .u32))),.i,.i,.b,.c,(.l .u8)],[.s,.i,.s,(.l (.pair (.int .u32) (.int .u32))),.i,.i,.b,.c,(.l .u8),.s,.i,.s,(.l (.pair (.int .u32) (.int .u32))),.i,.i,.b,.c,(.l .u8)]] (fun m x=>jl N m x.1 x.2.1 x.2.2.1 x.2.2.2.1 x.2.2.2.2.1 x.2.2.2.2.2.1 x.2.2.2.2.2.2.1 x.2.2.2.2.2.2.2.1 x.2.2.2.2.2.2.2.2.1 x.2.2.2.2.2.2.2.2.2.1 x.2.2.2.2.2.2.2.2.2.2.1 x.2.2.2.2.2.2.2.2.2.2.2.1 x.2.2.2.2.2.2.2.2.2.2.2.2.1 x.2.2.2.2.2.2.2.2.2.2.2.2.2.1 x.2.2.2.2.2.2.2.2.2.2.2.2.2.2.1 x.2.2.2.2.2.2.2.2.2.2.2.2.2.2.2.1 x.2.2.2.2.2.2.2.2.2.2.2.2.2.2.2.2.1 x.2.2.2.2.2.2.2.2.2.2.2.2.2.2.2.2.2.1 x.2.2.2.2.2.2.2.2.2.2.2.2.2.2.2.2.2.2.1) ⟨fun x=>(Sum.inl (x.1,x.2.1,x.2.2.1,x.2.2.2.1,x.2.2.2.2.1,x.2.2.2.2.2.1,x.2.2.2.2.2.2.1,x.2.2.2.2.2.2.2.1,x.2.2.2.2.2.2.2.2.1,x.2.2.2.2.2.2.2.2.2.1,x.2.2.2.2.2.2.2.2.2.2.1,x.2.2.2.2.2.2.2.2.2.2.2.1,x.2.2.2.2.2.2.2.2.2.2.2.2.1,x.2.2.2.2.2.2.2.2.2.2.2.2.2.1,x.2.2.2.2.2.2.2.2.2.2.2.2.2.2.1,x.2.2.2.2.2.2.2.2.2.2.2.2.2.2.2.1,x.2.2.2.2.2.2.2.2.2.2.2.2.2.2.2.2.1,x.2.2.2.2.2.2.2.2.2.2.2.2.2.2.2.2.2.1)),fun x=>(Sum.inr (x.1,x.2.1,x.2.2.1,x.2.2.2.1,x.2.2.2.2.1,x.2.2.2.2.2.1,x.2.2.2.2.2.2.1,x.2.2.2.2.2.2.2.1,x.2.2.2.2.2.2.2.2.1,x.2.2.2.2.2.2.2.2.2.1,x.2.2.2.2.2.2.2.2.2.2.1,x.2.2.2.2.2.2.2.2.2.2.2.1,x.2.2.2.2.2.2.2.2.2.2.2.2.1,x.2.2.2.2.2.2.2.2.2.2.2.2.2.1,x.2.2.2.2.2.2.2.2.2.2.2.2.2.2.1,x.2.2.2.2.2.2.2.2.2.2.2.2.2.2.2.1,x.2.2.2.2.2.2.2.2.2.2.2.2.2.2.2.2.1,x.2.2.2.2.2.2.2.2.2.2.2.2.2.2.2.2.2.1)),()⟩ N
def T17(N:Nat):FT:=(17,qp [uK2,uK2] [.bool] fun x=>jv N x.1 x.2.1)::(zsZ N)
theorem K17(N:Nat):AT (T17 N):=fnA zQ (zsI N) (.two .auto (.two .auto (.two (.two .auto (.one (.by_ (ko N)))) .auto))) Tryz.func17 (.cons (zbT N) .nil)
def T25(N:Nat):FT:=(25,qp [(.int .i64)] [.str] fun x=>zL N x.1)::(T17 N)
theorem K25(N:Nat):AT (T25 N):=fnA zQ (K17 N) .auto Tryz.func25 .nil
def zN(N:Nat):LF:=zS [] ⟨(.isl (.pair (.int .u32) (.int .u32)))::(.isl (.pair (.int .u32) (.int .u32)))::dr 10 ((.int .i64)::(.int .i64)::dr 12 []),[]⟩ [(.ret,⟨dr 4 ((.cst (.bool false))::dr 21 []),[]⟩),(.exit 0,⟨dr 26 [],[]⟩)] (lsT [(.l (.pair (.int .u32) (.int .u32))),(.l (.pair (.int .u32) (.int .u32))),.i,.i] (fun x=>zj N N x.1 x.2.1 x.2.2.1 x.2.2.2.1) fun R o κ=>(zw o (fun a11=>κ 0 []) (fun b12=>κ 1 [])))
theorem qL(N:Nat):Lp Tryz.f93 [1,1,0,1,2] (zN N):=jK zQ (K25 N) .auto .nil [(.l (.pair (.int .u32) (.int .u32))),(.l (.pair (.int .u32) (.int .u32))),.i,.i] [[],[]] (fun m x=>zj N m x.1 x.2.1 x.2.2.1 x.2.2.2.1) ⟨fun _=>(Sum.inl ()),fun _=>(Sum.inr ()),()⟩ N
def T93(N:Nat):FT:=(93,qp [(.sl (.pair (.int .u32) (.int .u32))),(.sl (.pair (.int .u32) (.int .u32)))] [.bool] fun x=>zm N x.1 x.2.1)::(T25 N)
theorem K93(N:Nat):AT (T93 N):=fnA zQ (K25 N) (.two .auto (.two .auto (.two (.two .auto (.one (.by_ (zN N)))) .auto))) Tryz.func93 (.cons (qL N) .nil)
def T49(N:Nat):FT:=(49,qp [uK2,uK2] [.bool] fun x=>zW N x.1 x.2.1)::(T93 N)
theorem K49(N:Nat):AT (T49 N):=fnA zQ (K93 N) .auto Tryz.func49 .nil
def wc(N:Nat):LF:=zS [] ⟨.drop::.str::(.ptr 1 0 1)::dr 4 ((.int .i64)::(.int .i64)::dr 10 []),[.gone,.cells [(.fn 48 [] [])] 0]⟩ [(.ret,⟨dr 4 ((.cst (.bool false))::dr 14 []),[.gone,.cells [(.fn 48 [] [])] 0]⟩),(.exit 0,⟨dr 19 [],[.gone,.cells [(.fn 48 [] [])] 0]⟩)] (lsT [.s,.i,.i] (fun x=>zK N N x.1 x.2.1 x.2.2.1) fun R o κ=>(zw o (fun a15=>κ 0 []) (fun b16=>κ 1 [])))
theorem xZ(N:Nat):Lp Tryz.f91 [1,0,1,2] (wc N):=jK zQ (K49 N) .auto .nil [.s,.i,.i] [[],[]] (fun m x=>zK N m x.1 x.2.1 x.2.2.1) ⟨fun _=>(Sum.inl ()),fun _=>(Sum.inr ()),()⟩ N
def T24(N:Nat):FT:=(24,qp [uK2] [.bool] fun x=>jA N x.1)::(T49 N)
theorem K24(N:Nat):AT (T24 N):=fnA zQ (K49 N) (.two .auto (.two (.two (.cal 2 47 (.two .auto (.two (.cal 6 91 (.two .auto (.two (.two .auto (.one (.by_ (wc N)))) .auto)) .auto) .auto)) .auto) .auto) .auto)) Tryz.func24 (.cons (xZ N) .nil)
def kl(N:Nat):LF:=zS [] ⟨.str::.drop::.drop::(.int .i64)::dr 13 [],[]⟩ [(.ret,⟨.drop::.drop::(.cst (.bool false))::dr 14 [],[]⟩),(.exit 0,⟨.str::dr 16 [],[]⟩)] (lsT [.s,.i] (fun x=>jj N N x.1 x.2.1) fun R o κ=>(zw o (fun a10=>κ 0 []) (fun b11=>κ 1 [.s b11])))
theorem zbP(N:Nat):Lp Tryz.f64 [1,0,1,2] (kl N):=jK zQ (K24 N) .auto .nil [.s,.i] [[],[.s]] (fun m x=>jj N m x.1 x.2.1) ⟨fun _=>(Sum.inl ()),fun x=>(Sum.inr x.1),()⟩ N
def T64(N:Nat):FT:=(64,qp [.str] [.bool] fun x=>zbO N x.1)::(T24 N)
theorem K64(N:Nat):AT (T64 N):=fnA zQ (K24 N) (.two .auto (.two (.two .auto (.one (.by_ (kl N)))) .auto)) Tryz.func64 (.cons (zbP N) .nil)
def T30(N:Nat):FT:=(30,qp [uK2] [.bool] fun x=>zbV N x.1)::(T64 N)
theorem K30(N:Nat):AT (T30 N):=fnA zQ (K64 N) .auto Tryz.func30 .nil
def T8(N:Nat):FT:=(8,qp [uK2] [.bool] fun x=>zh7 N x.1)::(T30 N)
theorem K8(N:Nat):AT (T8 N):=fnA zQ (K30 N) .auto Tryz.func8 .nil
def zs3(N:Nat):FT:=(149,zoE uK3 [] [.bool] fun p x=>zE N p)::(T8 N)
theorem ztB(N:Nat):AT (zs3 N):=fnP zQ (K8 N) .auto Tryz.func149 .nil
def zs4(N:Nat):FT:=(150,zoE uK3 [] [(.int .i64),.bool] fun p x=>qd N p)::(zs3 N)
theorem ztC(N:Nat):AT (zs4 N):=fnP zQ (ztB N) .auto Tryz.func150 .nil
def zti(N:Nat):FT:=(198,qp [(.sl .u8),(.sl .u8)] [.bool] fun x=>xn N x.1 x.2.1)::(zs4 N)
theorem ztM(N:Nat):AT (zti N):=fnA zQ (ztC N) .auto Tryz.func198 .nil
def ztj(N:Nat):FT:=(202,qp [(.sl .u8),(.sl .u8)] [.bool] fun x=>jT N x.1 x.2.1)::(zti N)
theorem ztN(N:Nat):AT (ztj N):=fnA zQ (ztM N) .auto Tryz.func202 .nil
def ztb(N:Nat):FT:=(179,qp [(.sl .u8),(.sl .u8)] [(.sl .u8),.bool] fun x=>qT N x.1 x.2.1)::(ztj N)
theorem zsL(N:Nat):AT (ztb N):=fnA zQ (ztN N) .auto Tryz.func179 .nil
def qA(N:Nat):LF:=zS [] ⟨(.isl .u8)::.u8::dr 3 ((.int .i64)::dr 14 []),[]⟩ [(.ret,⟨dr 4 ((.int .i64)::dr 15 []),[]⟩),(.exit 0,⟨dr 20 [],[]⟩)] (lsT [(.l .u8),.c,.i] (fun x=>zi N N x.1 x.2.1 x.2.2.1) fun R o κ=>(zw o (fun a7=>κ 0 [.i a7]) (fun b8=>κ 1 [])))
theorem wI(N:Nat):Lp Tryz.f203 [1,0,1,2] (qA N):=jK zQ (zsL N) .auto .nil [(.l .u8),.c,.i] [[.i],[]] (fun m x=>zi N m x.1 x.2.1 x.2.2.1) ⟨fun x=>(Sum.inl x.1),fun _=>(Sum.inr ()),()⟩ N
def ztk(N:Nat):FT:=(203,qp [(.sl .u8),.u8] [(.int .i64)] fun x=>qn N x.1 x.2.1)::(ztb N)
theorem ztO(N:Nat):AT (ztk N):=fnA zQ (zsL N) (.two .auto (.two (.two .auto (.one (.by_ (qA N)))) .auto)) Tryz.func203 (.cons (wI N) .nil)
def ztc(N:Nat):FT:=(180,qp [(.sl .u8),.u8] [(.int .i64)] fun x=>qb N x.1 x.2.1)::(ztk N)
theorem ztJ(N:Nat):AT (ztc N):=fnA zQ (ztO N) .auto Tryz.func180 .nil
def zs5(N:Nat):FT:=(151,qp [(.sl .u8)] [(.int .i64),.bool] fun x=>qV N x.1)::(ztc N)
theorem ztD(N:Nat):AT (zs5 N):=fnA zQ (ztJ N) .auto Tryz.func151 .nil
def zs6(N:Nat):FT:=(152,zoE uK3 [(.int .i64),(.sl .u8),(.int .i64)] [(.pair (.int .i64) (.sl .u8)),.bool] fun p x=>zq N p x.1 x.2.1 x.2.2.1)::(zs5 N)
theorem ztE(N:Nat):AT (zs6 N):=fnP zQ (ztD N) .auto Tryz.func152 .nil
def zsS(N:Nat):FT:=(104,zoE uK3 [] [(.pair (.int .i64) (.sl .u8)),.bool] fun p x=>zk N p)::(zs6 N)
theorem ztw(N:Nat):AT (zsS N):=fnP zQ (ztE N) .auto Tryz.func104 .nil
def T63(N:Nat):FT:=(63,zoE uK3 [] [(.int .i64)] fun p x=>qc N p)::(zsS N)
theorem K63(N:Nat):AT (T63 N):=fnP zQ (ztw N) .auto Tryz.func63 .nil
def jn(N:Nat):LF:=zS [] ⟨(.yld 4)::(.ptr 3 0 1)::dr 16 [],[.cells [(.isl .u8),(.int .i64),(.int .i64),(.int .i64)] 0,.gone,.cells [(.gs 8 1)] 0,.cells [(.ptr 0 0 4)] 0,.loop [.drop,.drop,.drop,.drop,.drop,(.ptr 2 0 1),.drop,.drop,.drop,.drop,.drop,.drop,.drop,.drop,.drop,.drop,.drop,.drop,.drop,.drop,.drop] 464 0,.gone,.gone,.gone,.seq (.pair (.int .i64) (.sl .u8)) 1 0 false]⟩ [(.ret,⟨dr 18 [],[.cells [(.isl .u8),(.int .i64),(.int .i64),(.int .i64)] 0,.gone,.cells [(.gs 8 1)] 0,.cells [(.ptr 0 0 4)] 0,.loop [.drop,.drop,.drop,.drop,.drop,(.ptr 2 0 1),.drop,.drop,.drop,.drop,.drop,.drop,.drop,.drop,.drop,.drop,.drop,.drop,.drop,.drop,.drop] 464 0,.gone,.gone,.gone,.seq (.pair (.int .i64) (.sl .u8)) 1 0 false]⟩)] (lsT [(.l .u8),.i,.i,.i,(.l (.pair (.int .i64) (.sl .u8)))] (fun x=>zY N N x.1 x.2.1 x.2.2.1 x.2.2.2.1 x.2.2.2.2.1) fun R o κ=>κ 0 [.l .u8 o.1,.i o.2.1,.i o.2.2.1,.i o.2.2.2.1,.l (.pair (.int .i64) (.sl .u8)) o.2.2.2.2])
theorem zbe(N:Nat):Lp Tryz.f103 [2] (jn N):=jK zQ (K63 N) .auto .nil [(.l .u8),.i,.i,.i,(.l (.pair (.int .i64) (.sl .u8)))] [[(.l .u8),.i,.i,.i,(.l (.pair (.int .i64) (.sl .u8)))]] (fun m x=>zY N m x.1 x.2.1 x.2.2.1 x.2.2.2.1 x.2.2.2.2.1) ⟨fun x=>(x.1,x.2.1,x.2.2.1,x.2.2.2.1,x.2.2.2.2.1),()⟩ N
def T29(N:Nat):FT:=(29,qp [(.sl .u8)] [(.sl (.pair (.int .i64) (.sl .u8))),(.int .i64)] fun x=>zB N x.1)::(T63 N)
theorem K29(N:Nat):AT (T29 N):=fnA zQ (K63 N) (.two .auto (.two .auto (.two .auto (.two .auto (.two (.two .auto (.one (.by_ (zpX Tryz.prog glA (zd4 (T63 N)) Tryz.f29 [1,1,1,1,0,1,2] 464 (.cal 0 103 (.one (.two .auto (.by_ (jn N)))) .auto))))) .auto))))) Tryz.func29 (.cons (zul zQ (K63 N) Tryz.f29 [1,1,1,1,0,1,2] 464 (.cal 0 103 (.one (.two .auto (.by_ (jn N)))) .auto) (.cons (zbe N) .nil)) .nil)
def xQ(N:Nat):LF:=zS [] ⟨(.isl .u8)::dr 4 ((.int .i64)::dr 22 []),[]⟩ [(.ret,⟨dr 4 ((.int .i64)::dr 23 []),[]⟩),(.exit 0,⟨dr 28 [],[]⟩)] (lsT [(.l .u8),.i] (fun x=>j3 N N x.1 x.2.1) fun R o κ=>(zw o (fun a6=>κ 0 [.i a6]) (fun b7=>κ 1 [])))
theorem zdE(N:Nat):Lp Tryz.f112 [1,0,1,2] (xQ N):=jK zQ (K29 N) .auto .nil [(.l .u8),.i] [[.i],[]] (fun m x=>j3 N m x.1 x.2.1) ⟨fun x=>(Sum.inl x.1),fun _=>(Sum.inr ()),()⟩ N
def zs0(N:Nat):FT:=(112,qp [(.sl .u8),(.int .i64)] [(.int .i64)] fun x=>zea N x.1 x.2.1)::(T29 N)
theorem zsJ(N:Nat):AT (zs0 N):=fnA zQ (K29 N) (.two .auto (.two (.two .auto (.one (.by_ (xQ N)))) .auto)) Tryz.func112 (.cons (zdE N) .nil)
def jS(N:Nat):LF:=zS [] ⟨(.isl .u8)::dr 3 ((.int .i64)::(.int .i64)::dr 60 []),[]⟩ [(.exit 0,⟨(.isl .u8)::dr 3 ((.int .i64)::(.int .i64)::dr 60 []),[]⟩)] (lsT [(.l .u8),.i,.i] (fun x=>qk N N x.1 x.2.1 x.2.2.1) fun R o κ=>κ 0 [.l .u8 o.1,.i o.2.1,.i o.2.2])
theorem xV(N:Nat):Lp Tryz.f113 [1,1,1,1,0,2] (jS N):=jK zQ (zsJ N) .auto .nil [(.l .u8),.i,.i] [[(.l .u8),.i,.i]] (fun m x=>qk N m x.1 x.2.1 x.2.2.1) ⟨fun x=>(x.1,x.2.1,x.2.2.1),()⟩ N
def zs1(N:Nat):FT:=(113,qp [(.sl .u8)] [(.int .i64),.bool] fun x=>kM N x.1)::(zs0 N)
theorem zsK(N:Nat):AT (zs1 N):=fnA zQ (zsJ N) (.two .auto (.two .auto (.two .auto (.two .auto (.two (.one (.by_ (jS N))) .auto))))) Tryz.func113 (.cons (xV N) .nil)
def wj(N:Nat):LF:=zS [(4,(.pair (.int .i64) (.sl .u8)))] ⟨(.isl .u8)::dr 3 ((.gs 0 1)::(.int .i64)::dr 71 []),[.seq (.pair (.int .i64) (.sl .u8)) 1 0 false]⟩ [(.ret,⟨.drop::.drop::(.gs 0 1)::(.int .i64)::dr 73 [],[.seq (.pair (.int .i64) (.sl .u8)) 1 0 false]⟩),(.exit 0,⟨dr 4 ((.gs 0 1)::dr 72 []),[.seq (.pair (.int .i64) (.sl .u8)) 1 0 false]⟩)] (lsT [(.l .u8),.i,(.l (.pair (.int .i64) (.sl .u8)))] (fun x=>qo N N x.1 x.2.1 x.2.2.1) fun R o κ=>(zw o (fun a22=>κ 0 [.i a22.1,.l (.pair (.int .i64) (.sl .u8)) a22.2]) (fun b23=>κ 1 [.l (.pair (.int .i64) (.sl .u8)) b23])))
theorem zaf(N:Nat):Lp Tryz.f72 [1,1,1,0,2] (wj N):=jK zQ (zsK N) .auto .nil [(.l .u8),.i,(.l (.pair (.int .i64) (.sl .u8)))] [[.i,(.l (.pair (.int .i64) (.sl .u8)))],[(.l (.pair (.int .i64) (.sl .u8)))]] (fun m x=>qo N m x.1 x.2.1 x.2.2.1) ⟨fun x=>(Sum.inl (x.1,x.2.1)),fun x=>(Sum.inr x.1),()⟩ N
def T72(N:Nat):FT:=(72,qp [(.sl .u8)] [(.sl (.pair (.int .i64) (.sl .u8))),(.int .i64)] fun x=>zae N x.1)::(zs1 N)
theorem K72(N:Nat):AT (T72 N):=fnA zQ (zsK N) (.two .auto (.two .auto (.two .auto (.two (.one (.by_ (wj N))) .auto)))) Tryz.func72 (.cons (zaf N) .nil)
def w5(N:Nat):LF:=zS [(4,(.pair (.int .i64) (.sl .u8)))] ⟨(.isl .u8)::dr 3 ((.gs 0 1)::dr 18 []),[.seq (.pair (.int .i64) (.sl .u8)) 1 0 false]⟩ [(.ret,⟨.drop::.drop::(.gs 0 1)::(.int .i64)::dr 19 [],[.seq (.pair (.int .i64) (.sl .u8)) 1 0 false]⟩)] (lsT [(.l .u8),(.l (.pair (.int .i64) (.sl .u8)))] (fun x=>ja N N x.1 x.2.1) fun R o κ=>κ 0 [.i o.1,.l (.pair (.int .i64) (.sl .u8)) o.2])
theorem zbo(N:Nat):Lp Tryz.f32 [1,1,2] (w5 N):=jK zQ (K72 N) .auto .nil [(.l .u8),(.l (.pair (.int .i64) (.sl .u8)))] [[.i,(.l (.pair (.int .i64) (.sl .u8)))]] (fun m x=>ja N m x.1 x.2.1) ⟨fun x=>(x.1,x.2.1),()⟩ N
def T32(N:Nat):FT:=(32,qp [(.sl .u8)] [(.sl (.pair (.int .i64) (.sl .u8))),(.int .i64)] fun x=>xx N x.1)::(T72 N)
theorem K32(N:Nat):AT (T32 N):=fnA zQ (K72 N) (.two .auto (.two .auto (.one (.by_ (w5 N))))) Tryz.func32 (.cons (zbo N) .nil)
def wB(N:Nat):LF:=zS [] ⟨dr 4 ((.ptr 0 0 2)::(.fn 174 [] [(.ptr 0 0 2)])::dr 5 ((.isl .u8)::(.int .i64)::(.int .i64)::dr 21 [])),[.cells [(.ptr 0 0 2),(.gs 2 393217)] 0 (some 75),.gone,.seq .u8 393217 0 false]⟩ [(.ret,⟨.drop::.drop::(.cst (.str ([]:List UInt8)))::(.cst (.bool false))::dr 31 [],[.cells [(.ptr 0 0 2),(.gs 2 393217)] 0 (some 75),.gone,.seq .u8 393217 0 false]⟩),(.exit 0,⟨dr 4 ((.ptr 0 0 2)::(.fn 174 [] [(.ptr 0 0 2)])::dr 29 []),[.cells [(.ptr 0 0 2),(.gs 2 393217)] 0 (some 75),.gone,.seq .u8 393217 0 false]⟩)] (lsT [(.l .u8),.i,.i,(.l .u8)] (fun x=>zO N N x.1 x.2.1 x.2.2.1 x.2.2.2.1) fun R o κ=>(zw o (fun a21=>κ 0 [.l .u8 a21]) (fun b22=>κ 1 [.l .u8 b22])))
theorem zaS(N:Nat):Lp Tryz.f147 [1,1,1,1,0,1,2] (wB N):=jK zQ (K32 N) .auto .nil [(.l .u8),.i,.i,(.l .u8)] [[(.l .u8)],[(.l .u8)]] (fun m x=>zO N m x.1 x.2.1 x.2.2.1 x.2.2.2.1) ⟨fun x=>(Sum.inl x.1),fun x=>(Sum.inr x.1),()⟩ N
def zs2(N:Nat):FT:=(147,qp [(.sl .u8)] [.str,.bool] fun x=>j2 N x.1)::(T32 N)
theorem ztA(N:Nat):AT (zs2 N):=fnA zQ (K32 N) (.two .auto (.two .auto (.two .auto (.two .auto (.two (.two .auto (.one (.by_ (wB N)))) .auto))))) Tryz.func147 (.cons (zaS N) .nil)
def T55(N:Nat):FT:=(55,qp [(.sl .u8)] [(.sl .u8)] fun x=>ql N x.1)::(zs2 N)
theorem K55(N:Nat):AT (T55 N):=fnA zQ (ztA N) .auto Tryz.func55 .nil
def T97(N:Nat):FT:=(97,qp [(.sl .u8)] [(.sl .u8)] fun x=>wh N x.1)::(T55 N)
theorem K97(N:Nat):AT (T97 N):=fnA zQ (K55 N) .auto Tryz.func97 .nil
def jQ(N:Nat):LF:=zS [] ⟨.drop::.str::(.ptr 0 0 1)::dr 4 ((.int .i64)::(.int .i64)::dr 10 []),[.cells [(.fn 96 [] [])] 0]⟩ [(.ret,⟨dr 4 ((.cst (.bool false))::dr 14 []),[.cells [(.fn 96 [] [])] 0]⟩),(.exit 0,⟨dr 19 [],[.cells [(.fn 96 [] [])] 0]⟩)] (lsT [.s,.i,.i] (fun x=>zJ N N x.1 x.2.1 x.2.2.1) fun R o κ=>(zw o (fun a15=>κ 0 []) (fun b16=>κ 1 [])))
theorem xU(N:Nat):Lp Tryz.f91 [1,0,1,2] (jQ N):=jK zQ (K97 N) .auto .nil [.s,.i,.i] [[],[]] (fun m x=>zJ N m x.1 x.2.1 x.2.2.1) ⟨fun _=>(Sum.inl ()),fun _=>(Sum.inr ()),()⟩ N
def T52(N:Nat):FT:=(52,qp [.str] [.str] fun x=>qv N x.1)::(T97 N)
theorem K52(N:Nat):AT (T52 N):=fnA zQ (K97 N) (.two .auto (.two (.two (.cal 1 47 (.two .auto (.two (.cal 6 91 (.two .auto (.two (.two .auto (.one (.by_ (jQ N)))) .auto)) .auto) .auto)) .auto) .auto) .auto)) Tryz.func52 (.cons (xU N) .nil)
def kL(N:Nat):LF:=zS [(3,.str)] ⟨dr 3 ((.gs 0 1)::dr 3 ((.isl .u8)::(.int .i64)::(.int .i64)::dr 13 [])),[.seq .str 1 0 false]⟩ [(.exit 0,⟨dr 3 ((.gs 0 1)::dr 19 []),[.seq .str 1 0 false]⟩)] (lsT [(.l .u8),.i,.i,(.l .str)] (fun x=>jB N N x.1 x.2.1 x.2.2.1 x.2.2.2.1) fun R o κ=>κ 0 [.l .str o])
theorem zcC(N:Nat):Lp Tryz.f54 [1,1,0,1,2] (kL N):=jK zQ (K52 N) .auto .nil [(.l .u8),.i,.i,(.l .str)] [[(.l .str)]] (fun m x=>jB N m x.1 x.2.1 x.2.2.1 x.2.2.2.1) ⟨fun x=>x.1,()⟩ N
def T54(N:Nat):FT:=(54,qp [.u8] [.str] fun x=>xu N x.1)::(T52 N)
theorem K54(N:Nat):AT (T54 N):=fnA zQ (K52 N) (.two .auto (.two .auto (.two (.two .auto (.one (.by_ (kL N)))) .auto))) Tryz.func54 (.cons (zcC N) .nil)
def zsQ(N:Nat):FT:=(101,qp [(.int .u32)] [.str] fun x=>xy N x.1)::(T54 N)
theorem zsE(N:Nat):AT (zsQ N):=fnA zQ (K54 N) .auto Tryz.func101 .nil
def wE(N:Nat):LF:=zS [(3,.str)] ⟨dr 3 ((.gs 0 1)::dr 3 ((.isl (.pair (.int .u32) (.int .u32)))::(.int .i64)::(.int .i64)::dr 26 [])),[.seq .str 1 0 false]⟩ [(.exit 0,⟨dr 3 ((.gs 0 1)::dr 32 []),[.seq .str 1 0 false]⟩)] (lsT [(.l (.pair (.int .u32) (.int .u32))),.i,.i,(.l .str)] (fun x=>qD N N x.1 x.2.1 x.2.2.1 x.2.2.2.1) fun R o κ=>κ 0 [.l .str o])
theorem zaV(N:Nat):Lp Tryz.f57 [1,1,0,1,2] (wE N):=jK zQ (zsE N) .auto .nil [(.l (.pair (.int .u32) (.int .u32))),.i,.i,(.l .str)] [[(.l .str)]] (fun m x=>qD N m x.1 x.2.1 x.2.2.1 x.2.2.2.1) ⟨fun x=>x.1,()⟩ N
def T57(N:Nat):FT:=(57,qp [(.sl (.pair (.int .u32) (.int .u32)))] [.str] fun x=>j4 N x.1)::(zsQ N)
theorem K57(N:Nat):AT (T57 N):=fnA zQ (zsE N) (.two .auto (.two .auto (.two (.two .auto (.one (.by_ (wE N)))) .auto))) Tryz.func57 (.cons (zaV N) .nil)
def wA(N:Nat):LF:=zS [(3,.str)] ⟨(.int .i64)::.drop::.drop::(.gs 1 1)::dr 4 ((.gs 0 0)::(.cst (.int .i64 (5:Int)))::(.int .i64)::dr 21 []),[.seq .str 0 0 true,.seq .str 1 0 false]⟩ [(.exit 0,⟨dr 3 ((.gs 1 1)::dr 28 []),[.seq .str 0 0 true,.seq .str 1 0 false]⟩)] (lsT [.i,.i,(.l .str),(.l .str)] (fun x=>qB N N x.1 x.2.1 x.2.2.1 x.2.2.2.1) fun R o κ=>κ 0 [.l .str o.1,.l .str o.2])
theorem zaO(N:Nat):Lp Tryz.f58 [1,1,0,1,2] (wA N):=jK zQ (K57 N) .auto .nil [.i,.i,(.l .str),(.l .str)] [[(.l .str),(.l .str)]] (fun m x=>qB N m x.1 x.2.1 x.2.2.1 x.2.2.2.1) ⟨fun x=>(x.1,x.2.1),()⟩ N
def T58(N:Nat):FT:=(58,qp [(.int .i64)] [.str] fun x=>za0 N x.1)::(T57 N)
theorem K58(N:Nat):AT (T58 N):=fnA zQ (K57 N) (.two .auto (.two .auto (.two (.two .auto (.one (.by_ (wA N)))) .auto))) Tryz.func58 (.cons (zaO N) .nil)
def T10(N:Nat):FT:=(10,qp [uK2] [(.sl .u8),.bool] fun x=>zG N x.1)::(T58 N)
theorem K10(N:Nat):AT (T10 N):=fnA zQ (K58 N) .auto Tryz.func10 .nil
def wX(N:Nat):LF:=zS [] ⟨.str::.drop::.drop::(.int .i64)::dr 13 [],[]⟩ [(.ret,⟨.drop::.drop::(.cst (.bool false))::dr 14 [],[]⟩),(.exit 0,⟨.str::dr 16 [],[]⟩)] (lsT [.s,.i] (fun x=>qW N N x.1 x.2.1) fun R o κ=>(zw o (fun a10=>κ 0 []) (fun b11=>κ 1 [.s b11])))
theorem zbf(N:Nat):Lp Tryz.f106 [1,0,1,2] (wX N):=jK zQ (K10 N) .auto .nil [.s,.i] [[],[.s]] (fun m x=>qW N m x.1 x.2.1) ⟨fun _=>(Sum.inl ()),fun x=>(Sum.inr x.1),()⟩ N
def zsU(N:Nat):FT:=(106,qp [.str] [.bool] fun x=>za2 N x.1)::(T10 N)
theorem zsF(N:Nat):AT (zsU N):=fnA zQ (K10 N) (.two .auto (.two (.two .auto (.one (.by_ (wX N)))) .auto)) Tryz.func106 (.cons (zbf N) .nil)
def w4(N:Nat):LF:=zS [] ⟨(.isl .u8)::dr 3 (.str::(.int .i64)::dr 36 []),[]⟩ [(.ret,⟨.drop::.drop::(.cst (.str ([]:List UInt8)))::(.cst (.bool false))::dr 38 [],[]⟩),(.exit 0,⟨dr 4 (.str::dr 37 []),[]⟩)] (lsT [(.l .u8),.s,.i] (fun x=>qZ N N x.1 x.2.1 x.2.2.1) fun R o κ=>(zw o (fun a11=>κ 0 []) (fun b12=>κ 1 [.s b12])))
theorem zbm(N:Nat):Lp Tryz.f154 [1,1,0,1,2] (w4 N):=jK zQ (zsF N) .auto .nil [(.l .u8),.s,.i] [[],[.s]] (fun m x=>qZ N m x.1 x.2.1 x.2.2.1) ⟨fun _=>(Sum.inl ()),fun x=>(Sum.inr x.1),()⟩ N
def zs8(N:Nat):FT:=(154,qp [(.sl .u8)] [.str,.bool] fun x=>za4 N x.1)::(zsU N)
theorem ztG(N:Nat):AT (zs8 N):=fnA zQ (zsF N) (.two .auto (.two .auto (.two (.two .auto (.one (.by_ (w4 N)))) .auto))) Tryz.func154 (.cons (zbm N) .nil)
def T68(N:Nat):FT:=(68,qp [(.sl .u8)] [(.sl .u8)] fun x=>jD N x.1)::(zs8 N)
theorem K68(N:Nat):AT (T68 N):=fnA zQ (ztG N) .auto Tryz.func68 .nil
def zsV(N:Nat):FT:=(107,qp [(.sl .u8)] [(.sl .u8)] fun x=>zc8 N x.1)::(T68 N)
theorem zty(N:Nat):AT (zsV N):=fnA zQ (K68 N) .auto Tryz.func107 .nil
def T66(N:Nat):FT:=(66,qp [.str] [.str] fun x=>w6 N x.1)::(zsV N)
theorem K66(N:Nat):AT (T66 N):=fnA zQ (zty N) .auto Tryz.func66 .nil
def km(N:Nat):LF:=zS [] ⟨(.int .i64)::.drop::.drop::.str::(.int .i64)::dr 19 [],[]⟩ [(.exit 0,⟨dr 3 (.str::dr 20 []),[]⟩)] (lsT [.i,.s,.i] (fun x=>jk N N x.1 x.2.1 x.2.2.1) fun R o κ=>κ 0 [.s o])
theorem zbR(N:Nat):Lp Tryz.f67 [1,1,0,1,2] (km N):=jK zQ (K66 N) .auto .nil [.i,.s,.i] [[.s]] (fun m x=>jk N m x.1 x.2.1 x.2.2.1) ⟨fun x=>x.1,()⟩ N
def T67(N:Nat):FT:=(67,qp [(.int .i64)] [.str] fun x=>zac N x.1)::(T66 N)
theorem K67(N:Nat):AT (T67 N):=fnA zQ (K66 N) (.two .auto (.two .auto (.two (.two .auto (.one (.by_ (km N)))) .auto))) Tryz.func67 (.cons (zbR N) .nil)
def zsY(N:Nat):FT:=(110,qp [(.int .u32)] [.str] fun x=>wi N x.1)::(T67 N)
theorem zsH(N:Nat):AT (zsY N):=fnA zQ (K67 N) .auto Tryz.func110 .nil
def wZ(N:Nat):LF:=zS [] ⟨(.isl (.pair (.int .u32) (.int .u32)))::.drop::.drop::.str::(.int .i64)::dr 39 [],[]⟩ [(.exit 0,⟨dr 3 (.str::dr 40 []),[]⟩)] (lsT [(.l (.pair (.int .u32) (.int .u32))),.s,.i] (fun x=>qY N N x.1 x.2.1 x.2.2.1) fun R o κ=>κ 0 [.s o])
theorem zbk(N:Nat):Lp Tryz.f69 [1,1,0,1,2] (wZ N):=jK zQ (zsH N) .auto .nil [(.l (.pair (.int .u32) (.int .u32))),.s,.i] [[.s]] (fun m x=>qY N m x.1 x.2.1 x.2.2.1) ⟨fun x=>x.1,()⟩ N
def T69(N:Nat):FT:=(69,qp [(.sl (.pair (.int .u32) (.int .u32)))] [.str] fun x=>xw N x.1)::(zsY N)
theorem K69(N:Nat):AT (T69 N):=fnA zQ (zsH N) (.two .auto (.two .auto (.two (.two .auto (.one (.by_ (wZ N)))) .auto))) Tryz.func69 (.cons (zbk N) .nil)
def kq(N:Nat):LF:=zS [] ⟨(.int .i64)::.drop::.drop::.str::(.int .i64)::dr 19 [],[]⟩ [(.exit 0,⟨dr 3 (.str::dr 20 []),[]⟩)] (lsT [.i,.s,.i] (fun x=>jm N N x.1 x.2.1 x.2.2.1) fun R o κ=>κ 0 [.s o])
theorem zbY(N:Nat):Lp Tryz.f70 [1,1,0,1,2] (kq N):=jK zQ (K69 N) .auto .nil [.i,.s,.i] [[.s]] (fun m x=>jm N m x.1 x.2.1 x.2.2.1) ⟨fun x=>x.1,()⟩ N
def T70(N:Nat):FT:=(70,qp [(.int .i64)] [.str] fun x=>zbX N x.1)::(T69 N)
theorem K70(N:Nat):AT (T70 N):=fnA zQ (K69 N) (.two .auto (.two .auto (.two (.two .auto (.one (.by_ (kq N)))) .auto))) Tryz.func70 (.cons (zbY N) .nil)
def T71(N:Nat):FT:=(71,qp [(.int .i64),.bool] [.str] fun x=>zc9 N x.1 x.2.1)::(T70 N)
theorem K71(N:Nat):AT (T71 N):=fnA zQ (K70 N) .auto Tryz.func71 .nil
def T31(N:Nat):FT:=(31,zrO .u8 [uK2] [] fun x=>zda N x.1)::(T71 N)
theorem K31(N:Nat):AT (T31 N):=fnO zQ (K71 N) .auto Tryz.func31 .nil
def T11(N:Nat):FT:=(11,qp [uK2] [(.sl .u8),.bool] fun x=>zbW N x.1)::(T31 N)
theorem K11(N:Nat):AT (T11 N):=fnA zQ (K31 N) .auto Tryz.func11 .nil
def jO(N:Nat):LF:=zS [] ⟨dr 5 ((.int .i64)::dr 16 ((.isl (.pair (.int .i64) (.sl .u8)))::(.int .i64)::(.int .i64)::dr 10 [])),[.gone]⟩ [(.exit 0,⟨dr 5 ((.int .i64)::dr 29 []),[.gone]⟩)] (lsT [.i,(.l (.pair (.int .i64) (.sl .u8))),.i,.i] (fun x=>zI N N x.1 x.2.1 x.2.2.1 x.2.2.2.1) fun R o κ=>κ 0 [.i o])
theorem xT(N:Nat):Lp Tryz.f13 [1,1,1,1,1,0,1,2] (jO N):=jK zQ (K11 N) .auto .nil [.i,(.l (.pair (.int .i64) (.sl .u8))),.i,.i] [[.i]] (fun m x=>zI N m x.1 x.2.1 x.2.2.1 x.2.2.2.1) ⟨fun x=>x.1,()⟩ N
def T13(N:Nat):FT:=(13,qp [uK2] [(.int .i64)] fun x=>zX N x.1)::(T11 N)
theorem K13(N:Nat):AT (T13 N):=fnA zQ (K11 N) (.two .auto (.two .auto (.two .auto (.two .auto (.two .auto (.two (.two .auto (.one (.by_ (jO N)))) .auto)))))) Tryz.func13 (.cons (xT N) .nil)
def T14(N:Nat):FT:=(14,qp [uK2] [(.int .i64)] fun x=>zdG N x.1)::(T13 N)
theorem K14(N:Nat):AT (T14 N):=fnA zQ (K13 N) .auto Tryz.func14 .nil
def qw(N:Nat):LF:=zS [] ⟨(.isl .u8)::(.isl .u8)::dr 10 ((.int .i64)::(.int .i64)::dr 12 []),[]⟩ [(.ret,⟨dr 4 ((.cst (.bool false))::dr 21 []),[]⟩),(.exit 0,⟨dr 26 [],[]⟩)] (lsT [(.l .u8),(.l .u8),.i,.i] (fun x=>zH N N x.1 x.2.1 x.2.2.1 x.2.2.2.1) fun R o κ=>(zw o (fun a11=>κ 0 []) (fun b12=>κ 1 [])))
theorem wx(N:Nat):Lp Tryz.f12 [1,1,0,1,2] (qw N):=jK zQ (K14 N) .auto .nil [(.l .u8),(.l .u8),.i,.i] [[],[]] (fun m x=>zH N m x.1 x.2.1 x.2.2.1 x.2.2.2.1) ⟨fun _=>(Sum.inl ()),fun _=>(Sum.inr ()),()⟩ N
def T12(N:Nat):FT:=(12,qp [(.sl .u8),(.sl .u8)] [.bool] fun x=>kN N x.1 x.2.1)::(T14 N)
theorem K12(N:Nat):AT (T12 N):=fnA zQ (K14 N) (.two .auto (.two .auto (.two (.two .auto (.one (.by_ (qw N)))) .auto))) Tryz.func12 (.cons (wx N) .nil)
def qJ(N:Nat):FT:=(T12 N)
theorem zaa(N:Nat):zkZ Tryz.prog glA (zd4 (qJ N)) hkA:=zpk zQ rfl (K12 N)
def qK(N:Nat):Pl:=.auto
theorem zaR(N:Nat)(x:El (ki [.u8])):jY Tryz.prog glA (zd4 (qJ N)) 1500 (qK N) 4 (qg [.u8] x) [] (zbH [.bool])=qe N x.1:=by kernel_rfl
theorem zaQ(N:Nat):∀ fn b,Tryz.prog.funcs[4]?=some fn->fn.body=some b->jH Tryz.prog glA hkA (qK N) b:=zeI Tryz.func4 (by kernel_rfl) .nil
end Go.Proofs.YtlfojfedfhpoiaaGreatDoor
