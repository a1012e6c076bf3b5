/- The functions of the law: their models, and that the program does what they say. -/
import Derived.Test.YtlfojfedfhpoiaaGreatDoorKpHp
import Derived.Test.YtlfojfedfhpoiaaGreatDoorB5
import Derived.Test.YtlfojfedfhpoiaaGreatDoorB6
set_option linter.unusedVariables false
set_option linter.unusedSimpArgs false
set_option maxRecDepth 100000
namespace Go.Proofs.YtlfojfedfhpoiaaGreatDoor
open Go.Proofs.Model Go Go.Gx Go.Mx Go.Sx
def hkA:qT:=z6 (z6 (z6 (z6 (z6 (zlK tab) 9 zpx) 28 zgJ) 178 zdE) 188 (zfg 9)) 204 zga
theorem zW:zoc Tryz.prog hkA [204,188,178,28,9]:=zcA (zcA (zcA (zcA (zcA (zot (by kernel_rfl)) 9 zpx) 28 _) 178 _) 188 _) 204 _
abbrev AT(T:FT):Prop:=ziO Tryz.prog glA hkA T
abbrev Lp(fn:Func)(p:List Nat)(g:LF):Prop:=ziQ Tryz.prog glA hkA (.loop (roundOf fn p)) g
def T0:FT:=[(9,qI [] [.bool] fun _=>some (true,())),(28,zqG),(178,zmu),(188,znL),(204,zna),(114,zrj),(116,zki),(219,zki),(234,zma)]
theorem K0:ziO Tryz.prog glA hkA T0:=⟨zoa rfl,zjk rfl,zhK rfl,ziA rfl,zik rfl,zjI rfl,zdA rfl,zdA rfl,zhx rfl,trivial⟩
def T92(N:Nat):FT:=(92,qI [.u8] [.bool] fun x=>zal N x.1)::T0
theorem K92(N:Nat):AT (T92 N):=fnA zW K0 .auto Tryz.func92 .nil
def T48(N:Nat):FT:=(48,qI [.u8] [.bool] fun x=>zbk N x.1)::(T92 N)
theorem K48(N:Nat):AT (T48 N):=fnA zW (K92 N) .auto Tryz.func48 .nil
def zuh(N:Nat):FT:=(176,qI [.u8] [.bool] fun x=>zak N x.1)::(T48 N)
theorem zuP(N:Nat):AT (zuh N):=fnA zW (K48 N) .auto Tryz.func176 .nil
def zun(N:Nat):FT:=(194,qI [(.int .i64)] [.str] fun x=>j1 N x.1)::(zuh N)
theorem zuS(N:Nat):AT (zun N):=fnA zW (zuP N) .auto Tryz.func194 .nil
def zut(N:Nat):FT:=(212,qI [(.int .u64)] [(.int .i64)] fun x=>jo N x.1)::(zun N)
theorem zuX(N:Nat):AT (zut N):=fnA zW (zuS N) .auto Tryz.func212 .nil
def zus(N:Nat):FT:=(211,qI [(.int .i64)] [(.int .i64)] fun x=>jI N x.1)::(zut N)
theorem zuW(N:Nat):AT (zus N):=fnA zW (zuX N) .auto Tryz.func211 .nil
def zuu(N:Nat):FT:=(213,qI [.bool] [(.int .i64)] fun x=>jH N x.1)::(zus N)
theorem zuY(N:Nat):AT (zuu N):=fnA zW (zuW N) .auto Tryz.func213 .nil
def zuo(N:Nat):FT:=(195,qI [(.int .u64)] [(.int .i64)] fun x=>zf N x.1)::(zuu N)
theorem ztV(N:Nat):AT (zuo N):=fnA zW (zuY N) .auto Tryz.func195 .nil
def kG(N:Nat):LF:=zY [] ⟨(.sl 0 0 false)::(.int .u64)::.drop::.drop::(.int .i64)::dr 162 [],[.seq .u8 0 0 true]⟩ [(.exit 0,⟨(.sl 0 0 false)::(.int .u64)::.drop::.drop::(.int .i64)::dr 162 [],[.seq .u8 0 0 true]⟩)] (lsT [.n,.n,.i,.i,(.l .u8)] (fun x=>za N N x.1 x.2.1 x.2.2.1 x.2.2.2.1 x.2.2.2.2.1) fun R o κ=>κ 0 [.n o.1,.n o.2.1,.i o.2.2.1,.i o.2.2.2.1,.l .u8 o.2.2.2.2])
theorem zbL(N:Nat):Lp Tryz.f196 [1,0,2] (kG N):=j5 zW (ztV N) .auto .nil [.n,.n,.i,.i,(.l .u8)] [[.n,.n,.i,.i,(.l .u8)]] (fun m x=>za N m x.1 x.2.1 x.2.2.1 x.2.2.2.1 x.2.2.2.2.1) ⟨fun x=>(x.1,x.2.1,x.2.2.1,x.2.2.2.1,x.2.2.2.2.1),()⟩ N
def ztW(N:Nat):FT:=(100,qI [(.int .u32)] [.str] fun x=>ze N x.1)::(zuo N)
theorem zuB(N:Nat):AT (ztW N):=fnA zW (ztV N) (.two .auto (.two (.cal 2 148 (.two .auto (.two (.cal 2 177 (.two .auto (.two (.two .auto (.two (.two .auto (.two .auto (.two .auto (.two (.cal 3 196 (.two .auto (.two (.one (.by_ (kG N))) .auto)) .auto) .auto)))) .auto)) .auto)) .auto) .auto)) .auto) .auto)) Tryz.func100 (.cons (zbL N) .nil)
def zuk(N:Nat):FT:=(181,qI [.str] [(.int .u32),.bool] fun x=>ki N x.1)::(ztW N)
theorem zuR(N:Nat):AT (zuk N):=fnA zW (zuB N) .auto Tryz.func181 .nil
def zul(N:Nat):FT:=(182,qI [(.sl .u8)] [(.sl .u8)] fun x=>zG N x.1)::(zuk N)
theorem ztT(N:Nat):AT (zul N):=zvj zW (zuR N) .auto Tryz.func182 .nil
def xP(N:Nat):LF:=zY [] ⟨(.fn 124 [] [])::(.ptr 1 0 1)::dr 3 ((.gs 0 0)::(.int .i64)::(.int .i64)::dr 11 []),[.seq .u8 0 0 true,.cells [(.gs 0 0)] 0]⟩ [(.exit 0,⟨dr 19 [],[.seq .u8 0 0 true,.cells [(.gs 0 0)] 0]⟩)] (lsT [.i,.i,(.l .u8)] (fun x=>jR N N x.1 x.2.1 x.2.2.1) fun R o κ=>κ 0 [.l .u8 o])
theorem zc1(N:Nat):Lp Tryz.f123 [1,2] (xP N):=j5 zW (ztT N) .auto .nil [.i,.i,(.l .u8)] [[(.l .u8)]] (fun m x=>jR N m x.1 x.2.1 x.2.2.1) ⟨fun x=>x.1,()⟩ N
def T81(N:Nat):FT:=(81,qI [.str] [.str] fun x=>zdx N x.1)::(zul N)
theorem K81(N:Nat):AT (T81 N):=fnA zW (ztT N) (.two .auto (.two .auto (.two .auto (.two (.cal 1 123 (.two .auto (.one (.by_ (xP N)))) .auto) .auto)))) Tryz.func81 (.cons (zc1 N) .nil)
def qq(N:Nat):LF:=zY [] ⟨(.isl .str)::.str::dr 5 ((.int .i64)::(.int .i64)::dr 10 []),[]⟩ [(.ret,⟨dr 4 ((.int .i64)::dr 14 []),[]⟩),(.exit 0,⟨dr 19 [],[]⟩)] (lsT [(.l .str),.s,.i,.i] (fun x=>zy N N x.1 x.2.1 x.2.2.1 x.2.2.2.1) fun R o κ=>(zl o (fun a11=>κ 0 [.i a11]) (fun b12=>κ 1 [])))
theorem jZ(N:Nat):Lp Tryz.f80 [1,0,1,2] (qq N):=j5 zW (K81 N) .auto .nil [(.l .str),.s,.i,.i] [[.i],[]] (fun m x=>zy N m x.1 x.2.1 x.2.2.1 x.2.2.2.1) ⟨fun x=>(Sum.inl x.1),fun _=>(Sum.inr ()),()⟩ N
def T80(N:Nat):FT:=(80,qI [(.sl .str),.str] [(.int .i64)] fun x=>qX N x.1 x.2.1)::(T81 N)
theorem K80(N:Nat):AT (T80 N):=fnA zW (K81 N) (.two .auto (.two (.two .auto (.one (.by_ (qq N)))) .auto)) Tryz.func80 (.cons (jZ N) .nil)
def T96(N:Nat):FT:=(96,qI [.u8] [.bool] fun x=>zaj N x.1)::(T80 N)
theorem K96(N:Nat):AT (T96 N):=fnA zW (K80 N) .auto Tryz.func96 .nil
def zaG(N:Nat):LF:=zY [(26388279066627,.u8)] ⟨.u8::.drop::.drop::(.gs 0 1572865)::.drop::.drop::(.int .i64)::dr 14 [],[.seq .u8 1572865 0 false]⟩ [(.exit 0,⟨dr 3 ((.gs 0 1572865)::dr 17 []),[.seq .u8 1572865 0 false]⟩)] (lsT [.c,.i,(.l .u8)] (fun x=>wA N N x.1 x.2.1 x.2.2.1) fun R o κ=>κ 0 [.l .u8 o])
theorem zdY(N:Nat):Lp Tryz.f98 [1,1,0,1,2] (zaG N):=j5 zW (K96 N) .auto .nil [.c,.i,(.l .u8)] [[(.l .u8)]] (fun m x=>wA N m x.1 x.2.1 x.2.2.1) ⟨fun x=>x.1,()⟩ N
def T98(N:Nat):FT:=(98,qI [.u8] [(.sl .u8)] fun x=>zew N x.1)::(T96 N)
theorem K98(N:Nat):AT (T98 N):=fnA zW (K96 N) (.two .auto (.two .auto (.two (.two .auto (.one (.by_ (zaG N)))) .auto))) Tryz.func98 (.cons (zdY N) .nil)
def zaH(N:Nat):LF:=zY [] ⟨.u8::dr 4 ((.gs 0 0)::(.cst (.int .i64 (5:Int)))::(.int .i64)::dr 10 []),[.seq .str 0 0 true]⟩ [(.ret,⟨.drop::.drop::.str::dr 15 [],[.seq .str 0 0 true]⟩),(.exit 0,⟨dr 18 [],[.seq .str 0 0 true]⟩)] (lsT [.c,.i,(.l .str)] (fun x=>wB N N x.1 x.2.1 x.2.2.1) fun R o κ=>(zl o (fun a9=>κ 0 [.s a9.1,.l .str a9.2]) (fun b10=>κ 1 [.l .str b10])))
theorem zd0(N:Nat):Lp Tryz.f99 [1,0,1,2] (zaH N):=j5 zW (K98 N) .auto .nil [.c,.i,(.l .str)] [[.s,(.l .str)],[(.l .str)]] (fun m x=>wB N m x.1 x.2.1 x.2.2.1) ⟨fun x=>(Sum.inl (x.1,x.2.1)),fun x=>(Sum.inr x.1),()⟩ N
def T99(N:Nat):FT:=(99,qI [.u8] [.str] fun x=>zex N x.1)::(T98 N)
theorem K99(N:Nat):AT (T99 N):=fnA zW (K98 N) (.two .auto (.two (.two .auto (.one (.by_ (zaH N)))) .auto)) Tryz.func99 (.cons (zd0 N) .nil)
def ztY(N:Nat):FT:=(102,qI [.str] [(.int .i64),.bool] fun x=>zbC N x.1)::(T99 N)
theorem zuC(N:Nat):AT (ztY N):=fnA zW (K99 N) .auto Tryz.func102 .nil
def zue(N:Nat):FT:=(153,qI [.u8] [.bool] fun x=>jN N x.1)::(ztY N)
theorem zuM(N:Nat):AT (zue N):=fnA zW (zuC N) .auto Tryz.func153 .nil
def zt0(N:Nat):FT:=(105,qI [.u8] [.bool] fun x=>kM N x.1)::(zue N)
theorem zuE(N:Nat):AT (zt0 N):=fnA zW (zuM N) .auto Tryz.func105 .nil
def zum(N:Nat):FT:=(183,qI [.u8] [.bool] fun x=>wM N x.1)::(zt0 N)
theorem ztU(N:Nat):AT (zum N):=fnA zW (zuE N) .auto Tryz.func183 .nil
def w9(N:Nat):LF:=zY [] ⟨(.int .u32)::.drop::.drop::.str::dr 18 [],[]⟩ [(.exit 0,⟨(.int .u32)::.drop::.drop::.str::dr 18 [],[]⟩)] (lsT [.i,.s] (fun x=>zS N N x.1 x.2.1) fun R o κ=>κ 0 [.i o.1,.s o.2])
theorem zby(N:Nat):Lp Tryz.f109 [1,1,0,2] (w9 N):=j5 zW (ztU N) .auto .nil [.i,.s] [[.i,.s]] (fun m x=>zS N m x.1 x.2.1) ⟨fun x=>(x.1,x.2.1),()⟩ N
def zt4(N:Nat):FT:=(109,qI [(.int .u32)] [.str] fun x=>qA N x.1)::(zum N)
theorem ztN(N:Nat):AT (zt4 N):=fnA zW (ztU N) (.two .auto (.two .auto (.two (.one (.by_ (w9 N))) .auto))) Tryz.func109 (.cons (zby N) .nil)
def kK(N:Nat):LF:=zY [] ⟨.str::dr 3 ((.int .u64)::(.int .i64)::dr 38 []),[]⟩ [(.ret,⟨.drop::.drop::(.cst (.int .u32 (0:Int)))::(.cst (.bool false))::dr 40 [],[]⟩),(.exit 0,⟨.str::dr 3 ((.int .u64)::dr 39 []),[]⟩)] (lsT [.s,.i,.i] (fun x=>qd N N x.1 x.2.1 x.2.2.1) fun R o κ=>(zl o (fun a8=>κ 0 []) (fun b9=>κ 1 [.s b9.1,.i b9.2])))
theorem zbO(N:Nat):Lp Tryz.f155 [1,1,1,0,1,2] (kK N):=j5 zW (ztN N) .auto .nil [.s,.i,.i] [[],[.s,.i]] (fun m x=>qd N m x.1 x.2.1 x.2.2.1) ⟨fun _=>(Sum.inl ()),fun x=>(Sum.inr (x.1,x.2.1)),()⟩ N
def zug(N:Nat):FT:=(155,qI [.str] [(.int .u32),.bool] fun x=>wD N x.1)::(zt4 N)
theorem zuO(N:Nat):AT (zug N):=fnA zW (ztN N) (.two .auto (.two .auto (.two .auto (.two (.two .auto (.one (.by_ (kK N)))) .auto)))) Tryz.func155 (.cons (zbO N) .nil)
def T65(N:Nat):FT:=(65,qI [(.int .i64)] [.str] fun x=>wP N x.1)::(zug N)
theorem K65(N:Nat):AT (T65 N):=fnA zW (zuO N) .auto Tryz.func65 .nil
def zt3(N:Nat):FT:=(108,qI [(.int .i64)] [.str] fun x=>zaU N x.1)::(T65 N)
theorem zuG(N:Nat):AT (zt3 N):=fnA zW (K65 N) .auto Tryz.func108 .nil
def zt6(N:Nat):FT:=(111,qI [(.int .i64)] [.str] fun x=>wU N x.1)::(zt3 N)
theorem ztP(N:Nat):AT (zt6 N):=fnA zW (zuG N) .auto Tryz.func111 .nil
def xu(N:Nat):LF:=zY [] ⟨.drop::.drop::(.ptr 0 0 9)::(.ptr 1 0 9)::.drop::(.int .i64)::dr 81 [],[.cells [.str,(.int .i64),.str,(.isl (.pair (.int .u32) (.int .u32))),(.int .i64),(.int .i64),.bool,.u8,(.isl .u8)] 0,.cells [.str,(.int .i64),.str,(.isl (.pair (.int .u32) (.int .u32))),(.int .i64),(.int .i64),.bool,.u8,(.isl .u8)] 0]⟩ [(.ret,⟨dr 4 ((.cst (.bool false))::dr 82 []),[.cells [.str,(.int .i64),.str,(.isl (.pair (.int .u32) (.int .u32))),(.int .i64),(.int .i64),.bool,.u8,(.isl .u8)] 0,.cells [.str,(.int .i64),.str,(.isl (.pair (.int .u32) (.int .u32))),(.int .i64),(.int .i64),.bool,.u8,(.isl .u8)] 0]⟩),(.exit 0,⟨.drop::.drop::(.ptr 0 0 9)::(.ptr 1 0 9)::dr 83 [],[.cells [.str,(.int .i64),.str,(.isl (.pair (.int .u32) (.int .u32))),(.int .i64),(.int .i64),.bool,.u8,(.isl .u8)] 0,.cells [.str,(.int .i64),.str,(.isl (.pair (.int .u32) (.int .u32))),(.int .i64),(.int .i64),.bool,.u8,(.isl .u8)] 0]⟩)] (lsT [.i,.s,.i,.s,(.l (.pair (.int .u32) (.int .u32))),.i,.i,.b,.c,(.l .u8),.s,.i,.s,(.l (.pair (.int .u32) (.int .u32))),.i,.i,.b,.c,(.l .u8)] (fun x=>qm N N x.1 x.2.1 x.2.2.1 x.2.2.2.1 x.2.2.2.2.1 x.2.2.2.2.2.1 x.2.2.2.2.2.2.1 x.2.2.2.2.2.2.2.1 x.2.2.2.2.2.2.2.2.1 x.2.2.2.2.2.2.2.2.2.1 x.2.2.2.2.2.2.2.2.2.2.1 x.2.2.2.2.2.2.2.2.2.2.2.1 x.2.2.2.2.2.2.2.2.2.2.2.2.1 x.2.2.2.2.2.2.2.2.2.2.2.2.2.1 x.2.2.2.2.2.2.2.2.2.2.2.2.2.2.1 x.2.2.2.2.2.2.2.2.2.2.2.2.2.2.2.1 x.2.2.2.2.2.2.2.2.2.2.2.2.2.2.2.2.1 x.2.2.2.2.2.2.2.2.2.2.2.2.2.2.2.2.2.1 x.2.2.2.2.2.2.2.2.2.2.2.2.2.2.2.2.2.2.1) fun R o κ=>(zl o (fun a41=>κ 0 [.s a41.1,.i a41.2.1,.s a41.2.2.1,.l (.pair (.int .u32) (.int .u32)) a41.2.2.2.1,.i a41.2.2.2.2.1,.i a41.2.2.2.2.2.1,.b a41.2.2.2.2.2.2.1,.c a41.2.2.2.2.2.2.2.1,.l .u8 a41.2.2.2.2.2.2.2.2.1,.s a41.2.2.2.2.2.2.2.2.2.1,.i a41.2.2.2.2.2.2.2.2.2.2.1,.s a41.2.2.2.2.2.2.2.2.2.2.2.1,.l (.pair (.int .u32) (.int .u32)) a41.2.2.2.2.2.2.2.2.2.2.2.2.1,.i a41.2.2.2.2.2.2.2.2.2.2.2.2.2.1,.i a41.2.2.2.2.2.2.2.2.2.2.2.2.2.2.1,.b a41.2.2.2.2.2.2.2.2.2.2.2.2.2.2.2.1,.c a41.2.2.2.2.2.2.2.2.2.2.2.2.2.2.2.2.1,.l .u8 a41.2.2.2.2.2.2.2.2.2.2.2.2.2.2.2.2.2]) (fun b42=>κ 1 [.s b42.1,.i b42.2.1,.s b42.2.2.1,.l (.pair (.int .u32) (.int .u32)) b42.2.2.2.1,.i b42.2.2.2.2.1,.i b42.2.2.2.2.2.1,.b b42.2.2.2.2.2.2.1,.c b42.2.2.2.2.2.2.2.1,.l .u8 b42.2.2.2.2.2.2.2.2.1,.s b42.2.2.2.2.2.2.2.2.2.1,.i b42.2.2.2.2.2.2.2.2.2.2.1,.s b42.2.2.2.2.2.2.2.2.2.2.2.1,.l (.pair (.int .u32) (.int .u32)) b42.2.2.2.2.2.2.2.2.2.2.2.2.1,.i b42.2.2.2.2.2.2.2.2.2.2.2.2.2.1,.i b42.2.2.2.2.2.2.2.2.2.2.2.2.2.2.1,.b b42.2.2.2.2.2.2.2.2.2.2.2.2.2.2.2.1,.c b42.2.2.2.2.2.2.2.2.2.2.2.2.2.2.2.2.1,.l .u8 b42.2.2.2.2.2.2.2.2.2.2.2.2.2.2.2.2.2])))
theorem zch(N:Nat):Lp Tryz.f17 [1,1,0,1,2] (xu N):=j5 zW (ztP N) .auto .nil [.i,.s,.i,.s,(.l (.pair (.int .u32) (.int .u32))),.i,.i,.b,.c,(.l .u8),.s,.i,.s,(.l (.pair (.int .u32) (.int .u32))),.i,.i,.b,.c,(.l .u8)] [[.s,.i,.s,(.l (.pair (.int .u32) (.int .u32))),.i,.i,.b,.c,(.l .u8),.s,.i,.s,(.l (.pair (.int .u32) (.int .u32))),.i,.i,.b,.c,(.l .u8)],[.s,.i,.s,(.l (.pair (.int .u32) (.int .u32))),.i,.i,.b,.c,(.l .u8),.s,.i,.s,(.l (.pair (.int .u32) (.int .u32))),.i,.i,.b,.c,(.l .u8)]] (fun m x=>qm N m x.1 x.2.1 x.2.2.1 x.2.2.2.1 x.2.2.2.2.1 x.2.2.2.2.2.1 x.2.2.2.2.2.2.1 x.2.2.2.2.2.2.2.1 x.2.2.2.2.2.2.2.2.1 x.2.2.2.2.2.2.2.2.2.1 x.2.2.2.2.2.2.2.2.2.2.1 x.2.2.2.2.2.2.2.2.2.2.2.1 x.2.2.2.2.2.2.2.2.2.2.2.2.1 x.2.2.2.2.2.2.2.2.2.2.2.2.2.1 x.2.2.2.2.2.2.2.2.2.2.2.2.2.2.1 x.2.2.2.2.2.2.2.2.2.2.2.2.2.2.2.1 x.2.2.2.2.2.2.2.2.2.2.2.2.2.2.2.2.1 x.2.2.2.2.2.2.2.2.2.2.2.2.2.2.2.2.2.1 x.2.2.2.2.2.2.2.2.2.2.2.2.2.2.2.2.2.2.1) ⟨fun x=>(Sum.inl (x.1,x.2.1,x.2.2.1,x.2.2.2.1,x.2.2.2.2.1,x.2.2.2.2.2.1,x.2.2.2.2.2.2.1,x.2.2.2.2.2.2.2.1,x.2.2.2.2.2.2.2.2.1,x.2.2.2.2.2.2.2.2.2.1,x.2.2.2.2.2.2.2.2.2.2.1,x.2.2.2.2.2.2.2.2.2.2.2.1,x.2.2.2.2.2.2.2.2.2.2.2.2.1,x.2.2.2.2.2.2.2.2.2.2.2.2.2.1,x.2.2.2.2.2.2.2.2.2.2.2.2.2.2.1,x.2.2.2.2.2.2.2.2.2.2.2.2.2.2.2.1,x.2.2.2.2.2.2.2.2.2.2.2.2.2.2.2.2.1,x.2.2.2.2.2.2.2.2.2.2.2.2.2.2.2.2.2.1)),fun x=>(Sum.inr (x.1,x.2.1,x.2.2.1,x.2.2.2.1,x.2.2.2.2.1,x.2.2.2.2.2.1,x.2.2.2.2.2.2.1,x.2.2.2.2.2.2.2.1,x.2.2.2.2.2.2.2.2.1,x.2.2.2.2.2.2.2.2.2.1,x.2.2.2.2.2.2.2.2.2.2.1,x.2.2.2.2.2.2.2.2.2.2.2.1,x.2.2.2.2.2.2.2.2.2.2.2.2.1,x.2.2.2.2.2.2.2.2.2.2.2.2.2.1,x.2.2.2.2.2.2.2.2.2.2.2.2.2.2.1,x.2.2.2.2.2.2.2.2.2.2.2.2.2.2.2.1,x.2.2.2.2.2.2.2.2.2.2.2.2.2.2.2.2.1,x.2.2.2.2.2.2.2.2.2.2.2.2.2.2.2.2.2.1)),()⟩ N
def T17(N:Nat):FT:=(17,qI [uK2,uK2] [.bool] fun x=>zK N x.1 x.2.1)::(zt6 N)
theorem K17(N:Nat):AT (T17 N):=fnA zW (ztP N) (.two .auto (.two .auto (.two (.two .auto (.one (.by_ (xu N)))) .auto))) Tryz.func17 (.cons (zch N) .nil)
def T25(N:Nat):FT:=(25,qI [(.int .i64)] [.str] fun x=>zN N x.1)::(T17 N)
theorem K25(N:Nat):AT (T25 N):=fnA zW (K17 N) .auto Tryz.func25 .nil
def zP(N:Nat):LF:=zY [] ⟨(.isl (.pair (.int .u32) (.int .u32)))::(.isl (.pair (.int .u32) (.int .u32)))::dr 10 ((.int .i64)::(.int .i64)::dr 12 []),[]⟩ [(.ret,⟨dr 4 ((.cst (.bool false))::dr 21 []),[]⟩),(.exit 0,⟨dr 26 [],[]⟩)] (lsT [(.l (.pair (.int .u32) (.int .u32))),(.l (.pair (.int .u32) (.int .u32))),.i,.i] (fun x=>zj N N x.1 x.2.1 x.2.2.1 x.2.2.2.1) fun R o κ=>(zl o (fun a11=>κ 0 []) (fun b12=>κ 1 [])))
theorem jf(N:Nat):Lp Tryz.f93 [1,1,0,1,2] (zP N):=j5 zW (K25 N) .auto .nil [(.l (.pair (.int .u32) (.int .u32))),(.l (.pair (.int .u32) (.int .u32))),.i,.i] [[],[]] (fun m x=>zj N m x.1 x.2.1 x.2.2.1 x.2.2.2.1) ⟨fun _=>(Sum.inl ()),fun _=>(Sum.inr ()),()⟩ N
def T93(N:Nat):FT:=(93,qI [(.sl (.pair (.int .u32) (.int .u32))),(.sl (.pair (.int .u32) (.int .u32)))] [.bool] fun x=>zp N x.1 x.2.1)::(T25 N)
theorem K93(N:Nat):AT (T93 N):=fnA zW (K25 N) (.two .auto (.two .auto (.two (.two .auto (.one (.by_ (zP N)))) .auto))) Tryz.func93 (.cons (jf N) .nil)
def T49(N:Nat):FT:=(49,qI [uK2,uK2] [.bool] fun x=>qa N x.1 x.2.1)::(T93 N)
theorem K49(N:Nat):AT (T49 N):=fnA zW (K93 N) .auto Tryz.func49 .nil
def wJ(N:Nat):LF:=zY [] ⟨.drop::.str::(.ptr 1 0 1)::dr 4 ((.int .i64)::(.int .i64)::dr 10 []),[.gone,.cells [(.fn 48 [] [])] 0]⟩ [(.ret,⟨dr 4 ((.cst (.bool false))::dr 14 []),[.gone,.cells [(.fn 48 [] [])] 0]⟩),(.exit 0,⟨dr 19 [],[.gone,.cells [(.fn 48 [] [])] 0]⟩)] (lsT [.s,.i,.i] (fun x=>zL N N x.1 x.2.1 x.2.2.1) fun R o κ=>(zl o (fun a15=>κ 0 []) (fun b16=>κ 1 [])))
theorem zaT(N:Nat):Lp Tryz.f91 [1,0,1,2] (wJ N):=j5 zW (K49 N) .auto .nil [.s,.i,.i] [[],[]] (fun m x=>zL N m x.1 x.2.1 x.2.2.1) ⟨fun _=>(Sum.inl ()),fun _=>(Sum.inr ()),()⟩ N
def T24(N:Nat):FT:=(24,qI [uK2] [.bool] fun x=>jS N x.1)::(T49 N)
theorem K24(N:Nat):AT (T24 N):=fnA zW (K49 N) (.two .auto (.two (.two (.cal 2 47 (.two .auto (.two (.cal 6 91 (.two .auto (.two (.two .auto (.one (.by_ (wJ N)))) .auto)) .auto) .auto)) .auto) .auto) .auto)) Tryz.func24 (.cons (zaT N) .nil)
def xn(N:Nat):LF:=zY [] ⟨.str::.drop::.drop::(.int .i64)::dr 13 [],[]⟩ [(.ret,⟨.drop::.drop::(.cst (.bool false))::dr 14 [],[]⟩),(.exit 0,⟨.str::dr 16 [],[]⟩)] (lsT [.s,.i] (fun x=>ql N N x.1 x.2.1) fun R o κ=>(zl o (fun a10=>κ 0 []) (fun b11=>κ 1 [.s b11])))
theorem zce(N:Nat):Lp Tryz.f64 [1,0,1,2] (xn N):=j5 zW (K24 N) .auto .nil [.s,.i] [[],[.s]] (fun m x=>ql N m x.1 x.2.1) ⟨fun _=>(Sum.inl ()),fun x=>(Sum.inr x.1),()⟩ N
def T64(N:Nat):FT:=(64,qI [.str] [.bool] fun x=>kj N x.1)::(T24 N)
theorem K64(N:Nat):AT (T64 N):=fnA zW (K24 N) (.two .auto (.two (.two .auto (.one (.by_ (xn N)))) .auto)) Tryz.func64 (.cons (zce N) .nil)
def T30(N:Nat):FT:=(30,qI [uK2] [.bool] fun x=>kk N x.1)::(T64 N)
theorem K30(N:Nat):AT (T30 N):=fnA zW (K64 N) .auto Tryz.func30 .nil
def T8(N:Nat):FT:=(8,qI [uK2] [.bool] fun x=>zao N x.1)::(T30 N)
theorem K8(N:Nat):AT (T8 N):=fnA zW (K30 N) .auto Tryz.func8 .nil
def zua(N:Nat):FT:=(149,zpK uK3 [] [.bool] fun p x=>zF N p)::(T8 N)
theorem zuI(N:Nat):AT (zua N):=fnP zW (K8 N) .auto Tryz.func149 .nil
def zub(N:Nat):FT:=(150,zpK uK3 [] [(.int .i64),.bool] fun p x=>qp N p)::(zua N)
theorem zuJ(N:Nat):AT (zub N):=fnP zW (zuI N) .auto Tryz.func150 .nil
def zup(N:Nat):FT:=(198,qI [(.sl .u8),(.sl .u8)] [.bool] fun x=>zai N x.1 x.2.1)::(zub N)
theorem zuT(N:Nat):AT (zup N):=fnA zW (zuJ N) .auto Tryz.func198 .nil
def zuq(N:Nat):FT:=(202,qI [(.sl .u8),(.sl .u8)] [.bool] fun x=>wm N x.1 x.2.1)::(zup N)
theorem zuU(N:Nat):AT (zuq N):=fnA zW (zuT N) .auto Tryz.func202 .nil
def zui(N:Nat):FT:=(179,qI [(.sl .u8),(.sl .u8)] [(.sl .u8),.bool] fun x=>jm N x.1 x.2.1)::(zuq N)
theorem ztS(N:Nat):AT (zui N):=fnA zW (zuU N) .auto Tryz.func179 .nil
def qV(N:Nat):LF:=zY [] ⟨(.isl .u8)::.u8::dr 3 ((.int .i64)::dr 14 []),[]⟩ [(.ret,⟨dr 4 ((.int .i64)::dr 15 []),[]⟩),(.exit 0,⟨dr 20 [],[]⟩)] (lsT [(.l .u8),.c,.i] (fun x=>zi N N x.1 x.2.1 x.2.2.1) fun R o κ=>(zl o (fun a7=>κ 0 [.i a7]) (fun b8=>κ 1 [])))
theorem kh(N:Nat):Lp Tryz.f203 [1,0,1,2] (qV N):=j5 zW (ztS N) .auto .nil [(.l .u8),.c,.i] [[.i],[]] (fun m x=>zi N m x.1 x.2.1 x.2.2.1) ⟨fun x=>(Sum.inl x.1),fun _=>(Sum.inr ()),()⟩ N
def zur(N:Nat):FT:=(203,qI [(.sl .u8),.u8] [(.int .i64)] fun x=>qD N x.1 x.2.1)::(zui N)
theorem zuV(N:Nat):AT (zur N):=fnA zW (ztS N) (.two .auto (.two (.two .auto (.one (.by_ (qV N)))) .auto)) Tryz.func203 (.cons (kh N) .nil)
def zuj(N:Nat):FT:=(180,qI [(.sl .u8),.u8] [(.int .i64)] fun x=>qn N x.1 x.2.1)::(zur N)
theorem zuQ(N:Nat):AT (zuj N):=fnA zW (zuV N) .auto Tryz.func180 .nil
def zuc(N:Nat):FT:=(151,qI [(.sl .u8)] [(.int .i64),.bool] fun x=>jq N x.1)::(zuj N)
theorem zuK(N:Nat):AT (zuc N):=fnA zW (zuQ N) .auto Tryz.func151 .nil
def zud(N:Nat):FT:=(152,zpK uK3 [(.int .i64),(.sl .u8),(.int .i64)] [(.pair (.int .i64) (.sl .u8)),.bool] fun p x=>zv N p x.1 x.2.1 x.2.2.1)::(zuc N)
theorem zuL(N:Nat):AT (zud N):=fnP zW (zuK N) .auto Tryz.func152 .nil
def ztZ(N:Nat):FT:=(104,zpK uK3 [] [(.pair (.int .i64) (.sl .u8)),.bool] fun p x=>zm N p)::(zud N)
theorem zuD(N:Nat):AT (ztZ N):=fnP zW (zuL N) .auto Tryz.func104 .nil
def T63(N:Nat):FT:=(63,zpK uK3 [] [(.int .i64)] fun p x=>qo N p)::(ztZ N)
theorem K63(N:Nat):AT (T63 N):=fnP zW (zuD N) .auto Tryz.func63 .nil
def jG(N:Nat):LF:=zY [] ⟨(.yld 4)::(.ptr 3 0 1)::dr 16 [],[.cells [(.isl .u8),(.int .i64),(.int .i64),(.int .i64)] 0,.gone,.cells [(.gs 8 1)] 0,.cells [(.ptr 0 0 4)] 0,.loop [.drop,.drop,.drop,.drop,.drop,(.ptr 2 0 1),.drop,.drop,.drop,.drop,.drop,.drop,.drop,.drop,.drop,.drop,.drop,.drop,.drop,.drop,.drop] 464 0,.gone,.gone,.gone,.seq (.pair (.int .i64) (.sl .u8)) 1 0 false]⟩ [(.ret,⟨dr 18 [],[.cells [(.isl .u8),(.int .i64),(.int .i64),(.int .i64)] 0,.gone,.cells [(.gs 8 1)] 0,.cells [(.ptr 0 0 4)] 0,.loop [.drop,.drop,.drop,.drop,.drop,(.ptr 2 0 1),.drop,.drop,.drop,.drop,.drop,.drop,.drop,.drop,.drop,.drop,.drop,.drop,.drop,.drop,.drop] 464 0,.gone,.gone,.gone,.seq (.pair (.int .i64) (.sl .u8)) 1 0 false]⟩)] (lsT [(.l .u8),.i,.i,.i,(.l (.pair (.int .i64) (.sl .u8)))] (fun x=>qb N N x.1 x.2.1 x.2.2.1 x.2.2.2.1 x.2.2.2.2.1) fun R o κ=>κ 0 [.l .u8 o.1,.i o.2.1,.i o.2.2.1,.i o.2.2.2.1,.l (.pair (.int .i64) (.sl .u8)) o.2.2.2.2])
theorem zbM(N:Nat):Lp Tryz.f103 [2] (jG N):=j5 zW (K63 N) .auto .nil [(.l .u8),.i,.i,.i,(.l (.pair (.int .i64) (.sl .u8)))] [[(.l .u8),.i,.i,.i,(.l (.pair (.int .i64) (.sl .u8)))]] (fun m x=>qb N m x.1 x.2.1 x.2.2.1 x.2.2.2.1 x.2.2.2.2.1) ⟨fun x=>(x.1,x.2.1,x.2.2.1,x.2.2.2.1,x.2.2.2.2.1),()⟩ N
def T29(N:Nat):FT:=(29,qI [(.sl .u8)] [(.sl (.pair (.int .i64) (.sl .u8))),(.int .i64)] fun x=>zD N x.1)::(T63 N)
theorem K29(N:Nat):AT (T29 N):=fnA zW (K63 N) (.two .auto (.two .auto (.two .auto (.two .auto (.two (.two .auto (.one (.by_ (zq7 Tryz.prog glA (zet (T63 N)) Tryz.f29 [1,1,1,1,0,1,2] 464 (.cal 0 103 (.one (.two .auto (.by_ (jG N)))) .auto))))) .auto))))) Tryz.func29 (.cons (zvv zW (K63 N) Tryz.f29 [1,1,1,1,0,1,2] 464 (.cal 0 103 (.one (.two .auto (.by_ (jG N)))) .auto) (.cons (zbM N) .nil)) .nil)
def zaI(N:Nat):LF:=zY [] ⟨(.isl .u8)::dr 4 ((.int .i64)::dr 22 []),[]⟩ [(.ret,⟨dr 4 ((.int .i64)::dr 23 []),[]⟩),(.exit 0,⟨dr 28 [],[]⟩)] (lsT [(.l .u8),.i] (fun x=>qR N N x.1 x.2.1) fun R o κ=>(zl o (fun a6=>κ 0 [.i a6]) (fun b7=>κ 1 [])))
theorem zd2(N:Nat):Lp Tryz.f112 [1,0,1,2] (zaI N):=j5 zW (K29 N) .auto .nil [(.l .u8),.i] [[.i],[]] (fun m x=>qR N m x.1 x.2.1) ⟨fun x=>(Sum.inl x.1),fun _=>(Sum.inr ()),()⟩ N
def zt7(N:Nat):FT:=(112,qI [(.sl .u8),(.int .i64)] [(.int .i64)] fun x=>zan N x.1 x.2.1)::(T29 N)
theorem ztQ(N:Nat):AT (zt7 N):=fnA zW (K29 N) (.two .auto (.two (.two .auto (.one (.by_ (zaI N)))) .auto)) Tryz.func112 (.cons (zd2 N) .nil)
def wj(N:Nat):LF:=zY [] ⟨(.isl .u8)::dr 3 ((.int .i64)::(.int .i64)::dr 60 []),[]⟩ [(.exit 0,⟨(.isl .u8)::dr 3 ((.int .i64)::(.int .i64)::dr 60 []),[]⟩)] (lsT [(.l .u8),.i,.i] (fun x=>zJ N N x.1 x.2.1 x.2.2.1) fun R o κ=>κ 0 [.l .u8 o.1,.i o.2.1,.i o.2.2])
theorem zaQ(N:Nat):Lp Tryz.f113 [1,1,1,1,0,2] (wj N):=j5 zW (ztQ N) .auto .nil [(.l .u8),.i,.i] [[(.l .u8),.i,.i]] (fun m x=>zJ N m x.1 x.2.1 x.2.2.1) ⟨fun x=>(x.1,x.2.1,x.2.2.1),()⟩ N
def zt8(N:Nat):FT:=(113,qI [(.sl .u8)] [(.int .i64),.bool] fun x=>jr N x.1)::(zt7 N)
theorem ztR(N:Nat):AT (zt8 N):=fnA zW (ztQ N) (.two .auto (.two .auto (.two .auto (.two .auto (.two (.one (.by_ (wj N))) .auto))))) Tryz.func113 (.cons (zaQ N) .nil)
def wN(N:Nat):LF:=zY [(4,(.pair (.int .i64) (.sl .u8)))] ⟨(.isl .u8)::dr 3 ((.gs 0 1)::(.int .i64)::dr 71 []),[.seq (.pair (.int .i64) (.sl .u8)) 1 0 false]⟩ [(.ret,⟨.drop::.drop::(.gs 0 1)::(.int .i64)::dr 73 [],[.seq (.pair (.int .i64) (.sl .u8)) 1 0 false]⟩),(.exit 0,⟨dr 4 ((.gs 0 1)::dr 72 []),[.seq (.pair (.int .i64) (.sl .u8)) 1 0 false]⟩)] (lsT [(.l .u8),.i,(.l (.pair (.int .i64) (.sl .u8)))] (fun x=>zM N N x.1 x.2.1 x.2.2.1) fun R o κ=>(zl o (fun a22=>κ 0 [.i a22.1,.l (.pair (.int .i64) (.sl .u8)) a22.2]) (fun b23=>κ 1 [.l (.pair (.int .i64) (.sl .u8)) b23])))
theorem zaV(N:Nat):Lp Tryz.f72 [1,1,1,0,2] (wN N):=j5 zW (ztR N) .auto .nil [(.l .u8),.i,(.l (.pair (.int .i64) (.sl .u8)))] [[.i,(.l (.pair (.int .i64) (.sl .u8)))],[(.l (.pair (.int .i64) (.sl .u8)))]] (fun m x=>zM N m x.1 x.2.1 x.2.2.1) ⟨fun x=>(Sum.inl (x.1,x.2.1)),fun x=>(Sum.inr x.1),()⟩ N
def T72(N:Nat):FT:=(72,qI [(.sl .u8)] [(.sl (.pair (.int .i64) (.sl .u8))),(.int .i64)] fun x=>jV N x.1)::(zt8 N)
theorem K72(N:Nat):AT (T72 N):=fnA zW (ztR N) (.two .auto (.two .auto (.two .auto (.two (.one (.by_ (wN N))) .auto)))) Tryz.func72 (.cons (zaV N) .nil)
def kQ(N:Nat):LF:=zY [(4,(.pair (.int .i64) (.sl .u8)))] ⟨(.isl .u8)::dr 3 ((.gs 0 1)::dr 18 []),[.seq (.pair (.int .i64) (.sl .u8)) 1 0 false]⟩ [(.ret,⟨.drop::.drop::(.gs 0 1)::(.int .i64)::dr 19 [],[.seq (.pair (.int .i64) (.sl .u8)) 1 0 false]⟩)] (lsT [(.l .u8),(.l (.pair (.int .i64) (.sl .u8)))] (fun x=>qf N N x.1 x.2.1) fun R o κ=>κ 0 [.i o.1,.l (.pair (.int .i64) (.sl .u8)) o.2])
theorem zbR(N:Nat):Lp Tryz.f32 [1,1,2] (kQ N):=j5 zW (K72 N) .auto .nil [(.l .u8),(.l (.pair (.int .i64) (.sl .u8)))] [[.i,(.l (.pair (.int .i64) (.sl .u8)))]] (fun m x=>qf N m x.1 x.2.1) ⟨fun x=>(x.1,x.2.1),()⟩ N
def T32(N:Nat):FT:=(32,qI [(.sl .u8)] [(.sl (.pair (.int .i64) (.sl .u8))),(.int .i64)] fun x=>jW N x.1)::(T72 N)
theorem K32(N:Nat):AT (T32 N):=fnA zW (K72 N) (.two .auto (.two .auto (.one (.by_ (kQ N))))) Tryz.func32 (.cons (zbR N) .nil)
def wY(N:Nat):LF:=zY [] ⟨dr 4 ((.ptr 0 0 2)::(.fn 174 [] [(.ptr 0 0 2)])::dr 5 ((.isl .u8)::(.int .i64)::(.int .i64)::dr 21 [])),[.cells [(.ptr 0 0 2),(.gs 2 393217)] 0 (some 75),.gone,.seq .u8 393217 0 false]⟩ [(.ret,⟨.drop::.drop::(.cst (.str ([]:List UInt8)))::(.cst (.bool false))::dr 31 [],[.cells [(.ptr 0 0 2),(.gs 2 393217)] 0 (some 75),.gone,.seq .u8 393217 0 false]⟩),(.exit 0,⟨dr 4 ((.ptr 0 0 2)::(.fn 174 [] [(.ptr 0 0 2)])::dr 29 []),[.cells [(.ptr 0 0 2),(.gs 2 393217)] 0 (some 75),.gone,.seq .u8 393217 0 false]⟩)] (lsT [(.l .u8),.i,.i,(.l .u8)] (fun x=>zR N N x.1 x.2.1 x.2.2.1 x.2.2.2.1) fun R o κ=>(zl o (fun a21=>κ 0 [.l .u8 a21]) (fun b22=>κ 1 [.l .u8 b22])))
theorem zbx(N:Nat):Lp Tryz.f147 [1,1,1,1,0,1,2] (wY N):=j5 zW (K32 N) .auto .nil [(.l .u8),.i,.i,(.l .u8)] [[(.l .u8)],[(.l .u8)]] (fun m x=>zR N m x.1 x.2.1 x.2.2.1 x.2.2.2.1) ⟨fun x=>(Sum.inl x.1),fun x=>(Sum.inr x.1),()⟩ N
def zt9(N:Nat):FT:=(147,qI [(.sl .u8)] [.str,.bool] fun x=>wC N x.1)::(T32 N)
theorem zuH(N:Nat):AT (zt9 N):=fnA zW (K32 N) (.two .auto (.two .auto (.two .auto (.two .auto (.two (.two .auto (.one (.by_ (wY N)))) .auto))))) Tryz.func147 (.cons (zbx N) .nil)
def T55(N:Nat):FT:=(55,qI [(.sl .u8)] [(.sl .u8)] fun x=>qz N x.1)::(zt9 N)
theorem K55(N:Nat):AT (T55 N):=fnA zW (zuH N) .auto Tryz.func55 .nil
def T97(N:Nat):FT:=(97,qI [(.sl .u8)] [(.sl .u8)] fun x=>wL N x.1)::(T55 N)
theorem K97(N:Nat):AT (T97 N):=fnA zW (K55 N) .auto Tryz.func97 .nil
def wh(N:Nat):LF:=zY [] ⟨.drop::.str::(.ptr 0 0 1)::dr 4 ((.int .i64)::(.int .i64)::dr 10 []),[.cells [(.fn 96 [] [])] 0]⟩ [(.ret,⟨dr 4 ((.cst (.bool false))::dr 14 []),[.cells [(.fn 96 [] [])] 0]⟩),(.exit 0,⟨dr 19 [],[.cells [(.fn 96 [] [])] 0]⟩)] (lsT [.s,.i,.i] (fun x=>zI N N x.1 x.2.1 x.2.2.1) fun R o κ=>(zl o (fun a15=>κ 0 []) (fun b16=>κ 1 [])))
theorem zaN(N:Nat):Lp Tryz.f91 [1,0,1,2] (wh N):=j5 zW (K97 N) .auto .nil [.s,.i,.i] [[],[]] (fun m x=>zI N m x.1 x.2.1 x.2.2.1) ⟨fun _=>(Sum.inl ()),fun _=>(Sum.inr ()),()⟩ N
def T52(N:Nat):FT:=(52,qI [.str] [.str] fun x=>qL N x.1)::(T97 N)
theorem K52(N:Nat):AT (T52 N):=fnA zW (K97 N) (.two .auto (.two (.two (.cal 1 47 (.two .auto (.two (.cal 6 91 (.two .auto (.two (.two .auto (.one (.by_ (wh N)))) .auto)) .auto) .auto)) .auto) .auto) .auto)) Tryz.func52 (.cons (zaN N) .nil)
def xQ(N:Nat):LF:=zY [(3,.str)] ⟨dr 3 ((.gs 0 1)::dr 3 ((.isl .u8)::(.int .i64)::(.int .i64)::dr 13 [])),[.seq .str 1 0 false]⟩ [(.exit 0,⟨dr 3 ((.gs 0 1)::dr 19 []),[.seq .str 1 0 false]⟩)] (lsT [(.l .u8),.i,.i,(.l .str)] (fun x=>jT N N x.1 x.2.1 x.2.2.1 x.2.2.2.1) fun R o κ=>κ 0 [.l .str o])
theorem zc3(N:Nat):Lp Tryz.f54 [1,1,0,1,2] (xQ N):=j5 zW (K52 N) .auto .nil [(.l .u8),.i,.i,(.l .str)] [[(.l .str)]] (fun m x=>jT N m x.1 x.2.1 x.2.2.1 x.2.2.2.1) ⟨fun x=>x.1,()⟩ N
def T54(N:Nat):FT:=(54,qI [.u8] [.str] fun x=>jc N x.1)::(T52 N)
theorem K54(N:Nat):AT (T54 N):=fnA zW (K52 N) (.two .auto (.two .auto (.two (.two .auto (.one (.by_ (xQ N)))) .auto))) Tryz.func54 (.cons (zc3 N) .nil)
def ztX(N:Nat):FT:=(101,qI [(.int .u32)] [.str] fun x=>jY N x.1)::(T54 N)
theorem ztL(N:Nat):AT (ztX N):=fnA zW (K54 N) .auto Tryz.func101 .nil
def kb(N:Nat):LF:=zY [(3,.str)] ⟨dr 3 ((.gs 0 1)::dr 3 ((.isl (.pair (.int .u32) (.int .u32)))::(.int .i64)::(.int .i64)::dr 26 [])),[.seq .str 1 0 false]⟩ [(.exit 0,⟨dr 3 ((.gs 0 1)::dr 32 []),[.seq .str 1 0 false]⟩)] (lsT [(.l (.pair (.int .u32) (.int .u32))),.i,.i,(.l .str)] (fun x=>zT N N x.1 x.2.1 x.2.2.1 x.2.2.2.1) fun R o κ=>κ 0 [.l .str o])
theorem zbz(N:Nat):Lp Tryz.f57 [1,1,0,1,2] (kb N):=j5 zW (ztL N) .auto .nil [(.l (.pair (.int .u32) (.int .u32))),.i,.i,(.l .str)] [[(.l .str)]] (fun m x=>zT N m x.1 x.2.1 x.2.2.1 x.2.2.2.1) ⟨fun x=>x.1,()⟩ N
def T57(N:Nat):FT:=(57,qI [(.sl (.pair (.int .u32) (.int .u32)))] [.str] fun x=>qS N x.1)::(ztX N)
theorem K57(N:Nat):AT (T57 N):=fnA zW (ztL N) (.two .auto (.two .auto (.two (.two .auto (.one (.by_ (kb N)))) .auto))) Tryz.func57 (.cons (zbz N) .nil)
def wX(N:Nat):LF:=zY [(3,.str)] ⟨(.int .i64)::.drop::.drop::(.gs 1 1)::dr 4 ((.gs 0 0)::(.cst (.int .i64 (5:Int)))::(.int .i64)::dr 21 []),[.seq .str 0 0 true,.seq .str 1 0 false]⟩ [(.exit 0,⟨dr 3 ((.gs 1 1)::dr 28 []),[.seq .str 0 0 true,.seq .str 1 0 false]⟩)] (lsT [.i,.i,(.l .str),(.l .str)] (fun x=>qW N N x.1 x.2.1 x.2.2.1 x.2.2.2.1) fun R o κ=>κ 0 [.l .str o.1,.l .str o.2])
theorem zbv(N:Nat):Lp Tryz.f58 [1,1,0,1,2] (wX N):=j5 zW (K57 N) .auto .nil [.i,.i,(.l .str),(.l .str)] [[(.l .str),(.l .str)]] (fun m x=>qW N m x.1 x.2.1 x.2.2.1 x.2.2.2.1) ⟨fun x=>(x.1,x.2.1),()⟩ N
def T58(N:Nat):FT:=(58,qI [(.int .i64)] [.str] fun x=>qQ N x.1)::(T57 N)
theorem K58(N:Nat):AT (T58 N):=fnA zW (K57 N) (.two .auto (.two .auto (.two (.two .auto (.one (.by_ (wX N)))) .auto))) Tryz.func58 (.cons (zbv N) .nil)
def T10(N:Nat):FT:=(10,qI [uK2] [(.sl .u8),.bool] fun x=>qy N x.1)::(T58 N)
theorem K10(N:Nat):AT (T10 N):=fnA zW (K58 N) .auto Tryz.func10 .nil
def kI(N:Nat):LF:=zY [] ⟨.str::.drop::.drop::(.int .i64)::dr 13 [],[]⟩ [(.ret,⟨.drop::.drop::(.cst (.bool false))::dr 14 [],[]⟩),(.exit 0,⟨.str::dr 16 [],[]⟩)] (lsT [.s,.i] (fun x=>qc N N x.1 x.2.1) fun R o κ=>(zl o (fun a10=>κ 0 []) (fun b11=>κ 1 [.s b11])))
theorem zbN(N:Nat):Lp Tryz.f106 [1,0,1,2] (kI N):=j5 zW (K10 N) .auto .nil [.s,.i] [[],[.s]] (fun m x=>qc N m x.1 x.2.1) ⟨fun _=>(Sum.inl ()),fun x=>(Sum.inr x.1),()⟩ N
def zt1(N:Nat):FT:=(106,qI [.str] [.bool] fun x=>xK N x.1)::(T10 N)
theorem ztM(N:Nat):AT (zt1 N):=fnA zW (K10 N) (.two .auto (.two (.two .auto (.one (.by_ (kI N)))) .auto)) Tryz.func106 (.cons (zbN N) .nil)
def kO(N:Nat):LF:=zY [] ⟨(.isl .u8)::dr 3 (.str::(.int .i64)::dr 36 []),[]⟩ [(.ret,⟨.drop::.drop::(.cst (.str ([]:List UInt8)))::(.cst (.bool false))::dr 38 [],[]⟩),(.exit 0,⟨dr 4 (.str::dr 37 []),[]⟩)] (lsT [(.l .u8),.s,.i] (fun x=>qe N N x.1 x.2.1 x.2.2.1) fun R o κ=>(zl o (fun a11=>κ 0 []) (fun b12=>κ 1 [.s b12])))
theorem zbQ(N:Nat):Lp Tryz.f154 [1,1,0,1,2] (kO N):=j5 zW (ztM N) .auto .nil [(.l .u8),.s,.i] [[],[.s]] (fun m x=>qe N m x.1 x.2.1 x.2.2.1) ⟨fun _=>(Sum.inl ()),fun x=>(Sum.inr x.1),()⟩ N
def zuf(N:Nat):FT:=(154,qI [(.sl .u8)] [.str,.bool] fun x=>wE N x.1)::(zt1 N)
theorem zuN(N:Nat):AT (zuf N):=fnA zW (ztM N) (.two .auto (.two .auto (.two (.two .auto (.one (.by_ (kO N)))) .auto))) Tryz.func154 (.cons (zbQ N) .nil)
def T68(N:Nat):FT:=(68,qI [(.sl .u8)] [(.sl .u8)] fun x=>qB N x.1)::(zuf N)
theorem K68(N:Nat):AT (T68 N):=fnA zW (zuN N) .auto Tryz.func68 .nil
def zt2(N:Nat):FT:=(107,qI [(.sl .u8)] [(.sl .u8)] fun x=>xr N x.1)::(T68 N)
theorem zuF(N:Nat):AT (zt2 N):=fnA zW (K68 N) .auto Tryz.func107 .nil
def T66(N:Nat):FT:=(66,qI [.str] [.str] fun x=>je N x.1)::(zt2 N)
theorem K66(N:Nat):AT (T66 N):=fnA zW (zuF N) .auto Tryz.func66 .nil
def xq(N:Nat):LF:=zY [] ⟨(.int .i64)::.drop::.drop::.str::(.int .i64)::dr 19 [],[]⟩ [(.exit 0,⟨dr 3 (.str::dr 20 []),[]⟩)] (lsT [.i,.s,.i] (fun x=>jD N N x.1 x.2.1 x.2.2.1) fun R o κ=>κ 0 [.s o])
theorem zcf(N:Nat):Lp Tryz.f67 [1,1,0,1,2] (xq N):=j5 zW (K66 N) .auto .nil [.i,.s,.i] [[.s]] (fun m x=>jD N m x.1 x.2.1 x.2.2.1) ⟨fun x=>x.1,()⟩ N
def T67(N:Nat):FT:=(67,qI [(.int .i64)] [.str] fun x=>jO N x.1)::(T66 N)
theorem K67(N:Nat):AT (T67 N):=fnA zW (K66 N) (.two .auto (.two .auto (.two (.two .auto (.one (.by_ (xq N)))) .auto))) Tryz.func67 (.cons (zcf N) .nil)
def zt5(N:Nat):FT:=(110,qI [(.int .u32)] [.str] fun x=>jd N x.1)::(T67 N)
theorem ztO(N:Nat):AT (zt5 N):=fnA zW (K67 N) .auto Tryz.func110 .nil
def kN(N:Nat):LF:=zY [] ⟨(.isl (.pair (.int .u32) (.int .u32)))::.drop::.drop::.str::(.int .i64)::dr 39 [],[]⟩ [(.exit 0,⟨dr 3 (.str::dr 40 []),[]⟩)] (lsT [(.l (.pair (.int .u32) (.int .u32))),.s,.i] (fun x=>zw N N x.1 x.2.1 x.2.2.1) fun R o κ=>κ 0 [.s o])
theorem zbP(N:Nat):Lp Tryz.f69 [1,1,0,1,2] (kN N):=j5 zW (ztO N) .auto .nil [(.l (.pair (.int .u32) (.int .u32))),.s,.i] [[.s]] (fun m x=>zw N m x.1 x.2.1 x.2.2.1) ⟨fun x=>x.1,()⟩ N
def T69(N:Nat):FT:=(69,qI [(.sl (.pair (.int .u32) (.int .u32)))] [.str] fun x=>jU N x.1)::(zt5 N)
theorem K69(N:Nat):AT (T69 N):=fnA zW (ztO N) (.two .auto (.two .auto (.two (.two .auto (.one (.by_ (kN N)))) .auto))) Tryz.func69 (.cons (zbP N) .nil)
def xx(N:Nat):LF:=zY [] ⟨(.int .i64)::.drop::.drop::.str::(.int .i64)::dr 19 [],[]⟩ [(.exit 0,⟨dr 3 (.str::dr 20 []),[]⟩)] (lsT [.i,.s,.i] (fun x=>jF N N x.1 x.2.1 x.2.2.1) fun R o κ=>κ 0 [.s o])
theorem zci(N:Nat):Lp Tryz.f70 [1,1,0,1,2] (xx N):=j5 zW (K69 N) .auto .nil [.i,.s,.i] [[.s]] (fun m x=>jF N m x.1 x.2.1 x.2.2.1) ⟨fun x=>x.1,()⟩ N
def T70(N:Nat):FT:=(70,qI [(.int .i64)] [.str] fun x=>jX N x.1)::(T69 N)
theorem K70(N:Nat):AT (T70 N):=fnA zW (K69 N) (.two .auto (.two .auto (.two (.two .auto (.one (.by_ (xx N)))) .auto))) Tryz.func70 (.cons (zci N) .nil)
def T71(N:Nat):FT:=(71,qI [(.int .i64),.bool] [.str] fun x=>zaW N x.1 x.2.1)::(T70 N)
theorem K71(N:Nat):AT (T71 N):=fnA zW (K70 N) .auto Tryz.func71 .nil
def T31(N:Nat):FT:=(31,zs2 .u8 [uK2] [] fun x=>xy N x.1)::(T71 N)
theorem K31(N:Nat):AT (T31 N):=fnO zW (K71 N) .auto Tryz.func31 .nil
def T11(N:Nat):FT:=(11,qI [uK2] [(.sl .u8),.bool] fun x=>qH N x.1)::(T31 N)
theorem K11(N:Nat):AT (T11 N):=fnA zW (K31 N) .auto Tryz.func11 .nil
def wc(N:Nat):LF:=zY [] ⟨dr 5 ((.int .i64)::dr 16 ((.isl (.pair (.int .i64) (.sl .u8)))::(.int .i64)::(.int .i64)::dr 10 [])),[.gone]⟩ [(.exit 0,⟨dr 5 ((.int .i64)::dr 29 []),[.gone]⟩)] (lsT [.i,(.l (.pair (.int .i64) (.sl .u8))),.i,.i] (fun x=>zH N N x.1 x.2.1 x.2.2.1 x.2.2.2.1) fun R o κ=>κ 0 [.i o])
theorem zaM(N:Nat):Lp Tryz.f13 [1,1,1,1,1,0,1,2] (wc N):=j5 zW (K11 N) .auto .nil [.i,(.l (.pair (.int .i64) (.sl .u8))),.i,.i] [[.i]] (fun m x=>zH N m x.1 x.2.1 x.2.2.1 x.2.2.2.1) ⟨fun x=>x.1,()⟩ N
def T13(N:Nat):FT:=(13,qI [uK2] [(.int .i64)] fun x=>jn N x.1)::(T11 N)
theorem K13(N:Nat):AT (T13 N):=fnA zW (K11 N) (.two .auto (.two .auto (.two .auto (.two .auto (.two .auto (.two (.two .auto (.one (.by_ (wc N)))) .auto)))))) Tryz.func13 (.cons (zaM N) .nil)
def T14(N:Nat):FT:=(14,qI [uK2] [(.int .i64)] fun x=>jE N x.1)::(T13 N)
theorem K14(N:Nat):AT (T14 N):=fnA zW (K13 N) .auto Tryz.func14 .nil
def qM(N:Nat):LF:=zY [] ⟨(.isl .u8)::(.isl .u8)::dr 10 ((.int .i64)::(.int .i64)::dr 12 []),[]⟩ [(.ret,⟨dr 4 ((.cst (.bool false))::dr 21 []),[]⟩),(.exit 0,⟨dr 26 [],[]⟩)] (lsT [(.l .u8),(.l .u8),.i,.i] (fun x=>zk N N x.1 x.2.1 x.2.2.1 x.2.2.2.1) fun R o κ=>(zl o (fun a11=>κ 0 []) (fun b12=>κ 1 [])))
theorem wV(N:Nat):Lp Tryz.f12 [1,1,0,1,2] (qM N):=j5 zW (K14 N) .auto .nil [(.l .u8),(.l .u8),.i,.i] [[],[]] (fun m x=>zk N m x.1 x.2.1 x.2.2.1 x.2.2.2.1) ⟨fun _=>(Sum.inl ()),fun _=>(Sum.inr ()),()⟩ N
def T12(N:Nat):FT:=(12,qI [(.sl .u8),(.sl .u8)] [.bool] fun x=>zU N x.1 x.2.1)::(T14 N)
theorem K12(N:Nat):AT (T12 N):=fnA zW (K14 N) (.two .auto (.two .auto (.two (.two .auto (.one (.by_ (qM N)))) .auto))) Tryz.func12 (.cons (wV N) .nil)
def qE(N:Nat):FT:=(T12 N)
theorem zam(N:Nat):zlO Tryz.prog glA (zet (qE N)) hkA:=zqt zW rfl (K12 N)
def qF(N:Nat):Pl:=.auto
theorem zaP(N:Nat)(x:El (xg [uK2])):wx Tryz.prog glA (zet (qE N)) 1500 (qF N) 3 (qu [uK2] x) [] (zb8 [.bool])=zX N x.1:=by kernel_rfl
theorem zaO(N:Nat):∀ fn b,Tryz.prog.funcs[3]?=some fn->fn.body=some b->j2 Tryz.prog glA hkA (qF N) b:=ze6 Tryz.func3 (by kernel_rfl) .nil
end Go.Proofs.YtlfojfedfhpoiaaGreatDoor
