/- The functions of the law: their models, and that the program does what they say. -/
import Derived.Test.YtlfojfedfhpoiaaGreatDoorKiHp
import Derived.Test.YtlfojfedfhpoiaaGreatDoorB4
set_option linter.unusedVariables false
set_option linter.unusedSimpArgs false
set_option maxRecDepth 100000
namespace Go.Proofs.YtlfojfedfhpoiaaGreatDoor
open Go.Proofs.Model Go Go.Gx Go.Mx Go.Sx
def gn:Nat->List PB->List PB|0,l=>l|n+1,l=>.gone::gn n l
def hkA:wJ:=zM (zM (zM (zM (zM (zkV tab) 9 znb) 28 zfL) 178 zdz) 188 (zeJ 9)) 204 zg4
theorem zq:zpH Tryz.prog hkA [204,188,178,28,9]:=zaL (zaL (zaL (zaL (zaL (zo2 (by kernel_rfl)) 9 znb) 28 _) 178 _) 188 _) 204 _
abbrev AT(T:FT):Prop:=zi1 Tryz.prog glA hkA T
abbrev Lp(fn:Func)(p:List Nat)(g:LF):Prop:=zkd Tryz.prog glA hkA (.loop (roundOf fn p)) g
def T0:FT:=[(9,zP [] [.bool] fun _=>some (true,())),(28,zt4),(178,zo3),(188,zpx),(204,zpj),(114,zuK),(116,zjy),(219,zjy),(234,zoQ)]
theorem K0:zi1 Tryz.prog glA hkA T0:=⟨zm8 rfl,ziq rfl,zgY rfl,zha rfl,zg3 rfl,ziK rfl,zcm rfl,zcm rfl,zgU rfl,trivial⟩
def T78(N:Nat):FT:=(78,zP [(.sl .u8),.u8] [(.int .i64)] fun x=>jG N x.1 x.2.1)::T0
theorem K78(N:Nat):AT (T78 N):=fnA zq K0 .auto Tryz.func78 .nil
def T92(N:Nat):FT:=(92,zP [.u8] [.bool] fun x=>zbm N x.1)::(T78 N)
theorem K92(N:Nat):AT (T92 N):=fnA zq (K78 N) .auto Tryz.func92 .nil
def T48(N:Nat):FT:=(48,zP [.u8] [.bool] fun x=>zbB N x.1)::(T92 N)
theorem K48(N:Nat):AT (T48 N):=fnA zq (K92 N) .auto Tryz.func48 .nil
def wI(N:Nat):LF:=zp [] ⟨.drop::.str::(.ptr 0 0 1)::dr 4 ((.int .i64)::(.int .i64)::dr 10 []),[.cells [(.fn 48 [] [])] 0]⟩ [(.ret,⟨dr 4 ((.cst (.bool false))::dr 14 []),[.cells [(.fn 48 [] [])] 0]⟩),(.exit 0,⟨dr 19 [],[.cells [(.fn 48 [] [])] 0]⟩)] (lsT [.s,.i,.i] (fun x=>je N N x.1 x.2.1 x.2.2.1) fun R o κ=>(ze o (fun a16=>κ 0 []) (fun b17=>κ 1 [])))
theorem zax(N:Nat):Lp Tryz.f91 [1,0,1,2] (wI N):=zW zq (K48 N) .auto .nil [.s,.i,.i] [[],[]] (fun m x=>je N m x.1 x.2.1 x.2.2.1) ⟨fun _=>(Sum.inl ()),fun _=>(Sum.inr ()),()⟩ N
def T39(N:Nat):FT:=(39,zP [(.sl .u8)] [.str,(.int .i64),.bool] fun x=>zbW N x.1)::(T48 N)
theorem K39(N:Nat):AT (T39 N):=fnA zq (K48 N) (.two .auto (.two .auto (.two (.two (.cal 7 47 (.two .auto (.two (.cal 6 91 (.two .auto (.two (.two .auto (.one (.by_ (wI N)))) .auto)) .auto) .auto)) .auto) .auto) .auto))) Tryz.func39 (.cons (zax N) .nil)
def zyn(N:Nat):FT:=(176,zP [.u8] [.bool] fun x=>kI N x.1)::(T39 N)
theorem zx0(N:Nat):AT (zyn N):=fnA zq (K39 N) .auto Tryz.func176 .nil
def qz(N:Nat):LF:=zp [(6597069832194,.u8)] ⟨(.ptr 0 0 3)::dr 55 [],[.cells [(.isl .u8),(.int .i64),(.gs 1 393217)] 0,.seq .u8 393217 0 false]⟩ [(.ret,⟨.drop::.drop::.bool::dr 53 [],[.cells [(.isl .u8),(.int .i64),(.gs 1 393217)] 0,.seq .u8 393217 0 false]⟩)] (lsT [(.l .u8),.i,(.l .u8)] (fun x=>zN N N x.1 x.2.1 x.2.2.1) fun R o κ=>κ 0 [.b o.1,.l .u8 o.2.1,.i o.2.2.1,.l .u8 o.2.2.2])
theorem wD(N:Nat):Lp Tryz.f185 [1,1,2] (qz N):=zW zq (zx0 N) .auto .nil [(.l .u8),.i,(.l .u8)] [[.b,(.l .u8),.i,(.l .u8)]] (fun m x=>zN N m x.1 x.2.1 x.2.2.1) ⟨fun x=>(x.1,x.2.1,x.2.2.1,x.2.2.2.1),()⟩ N
def zyh(N:Nat):FT:=(158,zP [(.sl .u8),(.int .i64)] [(.sl .u8),(.int .i64),.bool] fun x=>j5 N x.1 x.2.1)::(zyn N)
theorem zAD(N:Nat):AT (zyh N):=fnA zq (zx0 N) (.two .auto (.two (.cal 2 184 (.two .auto (.two .auto (.two (.two (.cal 2 185 (.two .auto (.two .auto (.one (.by_ (qz N))))) .auto) .auto) .auto))) .auto) .auto)) Tryz.func158 (.cons (wD N) .nil)
def zyw(N:Nat):FT:=(194,zP [(.int .i64)] [.str] fun x=>kR N x.1)::(zyh N)
theorem zAO(N:Nat):AT (zyw N):=fnA zq (zAD N) .auto Tryz.func194 .nil
def zyE(N:Nat):FT:=(212,zP [(.int .u64)] [(.int .i64)] fun x=>wB N x.1)::(zyw N)
theorem zAV(N:Nat):AT (zyE N):=fnA zq (zAO N) .auto Tryz.func212 .nil
def zyD(N:Nat):FT:=(211,zP [(.int .i64)] [(.int .i64)] fun x=>ka N x.1)::(zyE N)
theorem zAU(N:Nat):AT (zyD N):=fnA zq (zAV N) .auto Tryz.func211 .nil
def zyF(N:Nat):FT:=(213,zP [.bool] [(.int .i64)] fun x=>wZ N x.1)::(zyD N)
theorem zAW(N:Nat):AT (zyF N):=fnA zq (zAU N) .auto Tryz.func213 .nil
def zyx(N:Nat):FT:=(195,zP [(.int .u64)] [(.int .i64)] fun x=>zr N x.1)::(zyF N)
theorem zx3(N:Nat):AT (zyx N):=fnA zq (zAW N) .auto Tryz.func195 .nil
def jP(N:Nat):LF:=zp [] ⟨(.sl 0 0 false)::(.int .u64)::.drop::.drop::(.int .i64)::dr 162 [],[.seq .u8 0 0 true]⟩ [(.exit 0,⟨(.sl 0 0 false)::(.int .u64)::.drop::.drop::(.int .i64)::dr 162 [],[.seq .u8 0 0 true]⟩)] (lsT [.n,.n,.i,.i,(.l .u8)] (fun x=>zd N N x.1 x.2.1 x.2.2.1 x.2.2.2.1 x.2.2.2.2.1) fun R o κ=>κ 0 [.n o.1,.n o.2.1,.i o.2.2.1,.i o.2.2.2.1,.l .u8 o.2.2.2.2])
theorem xJ(N:Nat):Lp Tryz.f196 [1,0,2] (jP N):=zW zq (zx3 N) .auto .nil [.n,.n,.i,.i,(.l .u8)] [[.n,.n,.i,.i,(.l .u8)]] (fun m x=>zd N m x.1 x.2.1 x.2.2.1 x.2.2.2.1 x.2.2.2.2.1) ⟨fun x=>(x.1,x.2.1,x.2.2.1,x.2.2.2.1,x.2.2.2.2.1),()⟩ N
def zx5(N:Nat):FT:=(100,zP [(.int .u32)] [.str] fun x=>zl N x.1)::(zyx N)
theorem zAu(N:Nat):AT (zx5 N):=fnA zq (zx3 N) (.two .auto (.two (.cal 2 148 (.two .auto (.two (.cal 2 177 (.two .auto (.two (.two .auto (.two (.two .auto (.two .auto (.two .auto (.two (.cal 3 196 (.two .auto (.two (.one (.by_ (jP N))) .auto)) .auto) .auto)))) .auto)) .auto)) .auto) .auto)) .auto) .auto)) Tryz.func100 (.cons (xJ N) .nil)
def zyq(N:Nat):FT:=(181,zP [.str] [(.int .u32),.bool] fun x=>wT N x.1)::(zx5 N)
theorem zAJ(N:Nat):AT (zyq N):=fnA zq (zAu N) .auto Tryz.func181 .nil
def zyr(N:Nat):FT:=(182,zP [(.sl .u8)] [(.sl .u8)] fun x=>zQ N x.1)::(zyq N)
theorem zAK(N:Nat):AT (zyr N):=zBY zq (zAJ N) .auto Tryz.func182 .nil
def zyi(N:Nat):FT:=(159,zP [(.sl .u8),(.int .i64)] [(.sl .u8),(.int .i64),.bool] fun x=>qS N x.1 x.2.1)::(zyr N)
theorem zAE(N:Nat):AT (zyi N):=fnA zq (zAK N) .auto Tryz.func159 .nil
def zyB(N:Nat):FT:=(207,zP [.str,.u8] [(.int .i64)] fun x=>qI N x.1 x.2.1)::(zyi N)
theorem zAS(N:Nat):AT (zyB N):=fnA zq (zAE N) .auto Tryz.func207 .nil
def zys(N:Nat):FT:=(187,zP [.str,.u8] [(.int .i64)] fun x=>xM N x.1 x.2.1)::(zyB N)
theorem zAL(N:Nat):AT (zys N):=fnA zq (zAS N) .auto Tryz.func187 .nil
def zyj(N:Nat):FT:=(160,zP [.u8] [.bool] fun x=>xA N x.1)::(zys N)
theorem zwv(N:Nat):AT (zyj N):=fnA zq (zAL N) .auto Tryz.func160 .nil
def jw(N:Nat):LF:=zp [] ⟨(.ptr 0 0 2)::.drop::(.ptr 4 0 3)::.drop::(.int .i64)::dr 52 [],(.cells [(.isl .u8),(.int .i64)] 0::(gn 4 []))⟩ [(.exit 0,⟨(.ptr 0 0 2)::.drop::(.ptr 4 0 3)::.drop::(.int .i64)::dr 52 [],(.cells [(.isl .u8),(.int .i64)] 0::(gn 4 []))⟩)] (lsT [.i,(.l .u8),.i] (fun x=>qp N N x.1 x.2.1 x.2.2.1) fun R o κ=>κ 0 [.i o.1,.l .u8 o.2.1,.i o.2.2])
def jv(N:Nat):LF:=zp [(4,uK1)] ⟨dr 4 ((.gs 1 1)::(.ptr 0 0 2)::dr 26 []),[.cells [(.isl .u8),(.int .i64)] 0,.seq uK1 1 0 false]⟩ [(.ret,⟨.drop::.drop::(.gs 1 1)::(.cst (.int .i64 (-1:Int)))::dr 28 [],[.cells [(.isl .u8),(.int .i64)] 0,.seq uK1 1 0 false]⟩),(.ret,⟨.drop::.drop::(.cst .qC)::(.int .i64)::dr 28 [],[.cells [(.isl .u8),(.int .i64)] 0,.seq uK1 1 0 false]⟩)] (lsT [(.l .u8),.i,(.l uK1)] (fun x=>zL N N x.1 x.2.1 x.2.2.1) fun R o κ=>(ze o (fun a90=>κ 0 [.l .u8 a90.1,.i a90.2.1,.l uK1 a90.2.2]) (fun b91=>κ 1 [.i b91.1,.l .u8 b91.2.1,.i b91.2.2.1,.l uK1 b91.2.2.2])))
theorem xq(N:Nat):Lp Tryz.f122 [1,1,0,2] (jw N):=zW zq (zwv N) .auto .nil [.i,(.l .u8),.i] [[.i,(.l .u8),.i]] (fun m x=>qp N m x.1 x.2.1 x.2.2.1) ⟨fun x=>(x.1,x.2.1,x.2.2.1),()⟩ N
theorem xo(N:Nat):Lp Tryz.f42 [1,1,1,2] (jv N):=zW zq (zwv N) (.one (.two .auto (.two (.cal 1 79 (.two .auto (.two .auto (.two .auto (.two .auto (.two .auto (.two (.cal 1 122 (.two .auto (.two .auto (.two (.one (.by_ (jw N))) .auto))) .auto) .auto)))))) .auto) .auto))) (.cons (xq N) .nil) [(.l .u8),.i,(.l uK1)] [[(.l .u8),.i,(.l uK1)],[.i,(.l .u8),.i,(.l uK1)]] (fun m x=>zL N m x.1 x.2.1 x.2.2.1) ⟨fun x=>(Sum.inl (x.1,x.2.1,x.2.2.1)),fun x=>(Sum.inr (x.1,x.2.1,x.2.2.1,x.2.2.2.1)),()⟩ N
def T42(N:Nat):FT:=(42,zP [(.sl .u8)] [(.sl uK1),(.int .i64)] fun x=>xz N x.1)::(zyj N)
theorem K42(N:Nat):AT (T42 N):=fnA zq (zwv N) (.two .auto (.two .auto (.two .auto (.one (.by_ (jv N)))))) Tryz.func42 (.cons (xo N) .nil)
def qf(N:Nat):LF:=zp [] ⟨(.isl (.int .i64))::(.int .i64)::dr 5 ((.int .i64)::(.int .i64)::dr 10 []),[]⟩ [(.ret,⟨dr 4 ((.int .i64)::dr 14 []),[]⟩),(.exit 0,⟨dr 19 [],[]⟩)] (lsT [(.l (.int .i64)),.i,.i,.i] (fun x=>zH N N x.1 x.2.1 x.2.2.1 x.2.2.2.1) fun R o κ=>(ze o (fun a11=>κ 0 [.i a11]) (fun b12=>κ 1 [])))
theorem jR(N:Nat):Lp Tryz.f125 [1,0,1,2] (qf N):=zW zq (K42 N) .auto .nil [(.l (.int .i64)),.i,.i,.i] [[.i],[]] (fun m x=>zH N m x.1 x.2.1 x.2.2.1 x.2.2.2.1) ⟨fun x=>(Sum.inl x.1),fun _=>(Sum.inr ()),()⟩ N
def zx9(N:Nat):FT:=(125,zP [(.sl (.int .i64)),(.int .i64)] [(.int .i64)] fun x=>qQ N x.1 x.2.1)::(T42 N)
theorem zAw(N:Nat):AT (zx9 N):=fnA zq (K42 N) (.two .auto (.two (.two .auto (.one (.by_ (qf N)))) .auto)) Tryz.func125 (.cons (jR N) .nil)
def T82(N:Nat):FT:=(82,zP [(.sl (.int .i64)),(.int .i64)] [.bool] fun x=>za N x.1 x.2.1)::(zx9 N)
theorem K82(N:Nat):AT (T82 N):=fnA zq (zAw N) .auto Tryz.func82 .nil
def wu(N:Nat):LF:=zp [] ⟨(.fn 124 [] [])::(.ptr 1 0 1)::dr 3 ((.gs 0 0)::(.int .i64)::(.int .i64)::dr 11 []),[.seq .u8 0 0 true,.cells [(.gs 0 0)] 0]⟩ [(.exit 0,⟨dr 19 [],[.seq .u8 0 0 true,.cells [(.gs 0 0)] 0]⟩)] (lsT [.i,.i,(.l .u8)] (fun x=>qX N N x.1 x.2.1 x.2.2.1) fun R o κ=>κ 0 [.l .u8 o])
theorem zav(N:Nat):Lp Tryz.f123 [1,2] (wu N):=zW zq (K82 N) .auto .nil [.i,.i,(.l .u8)] [[(.l .u8)]] (fun m x=>qX N m x.1 x.2.1 x.2.2.1) ⟨fun x=>x.1,()⟩ N
def T81(N:Nat):FT:=(81,zP [.str] [.str] fun x=>j1 N x.1)::(T82 N)
theorem K81(N:Nat):AT (T81 N):=fnA zq (K82 N) (.two .auto (.two .auto (.two .auto (.two (.cal 1 123 (.two .auto (.one (.by_ (wu N)))) .auto) .auto)))) Tryz.func81 (.cons (zav N) .nil)
def zK(N:Nat):LF:=zp [] ⟨(.isl .str)::.str::dr 5 ((.int .i64)::(.int .i64)::dr 10 []),[]⟩ [(.ret,⟨dr 4 ((.int .i64)::dr 14 []),[]⟩),(.exit 0,⟨dr 19 [],[]⟩)] (lsT [(.l .str),.s,.i,.i] (fun x=>zi N N x.1 x.2.1 x.2.2.1 x.2.2.2.1) fun R o κ=>(ze o (fun a11=>κ 0 [.i a11]) (fun b12=>κ 1 [])))
theorem qF(N:Nat):Lp Tryz.f80 [1,0,1,2] (zK N):=zW zq (K81 N) .auto .nil [(.l .str),.s,.i,.i] [[.i],[]] (fun m x=>zi N m x.1 x.2.1 x.2.2.1 x.2.2.2.1) ⟨fun x=>(Sum.inl x.1),fun _=>(Sum.inr ()),()⟩ N
def T80(N:Nat):FT:=(80,zP [(.sl .str),.str] [(.int .i64)] fun x=>zm N x.1 x.2.1)::(T81 N)
theorem K80(N:Nat):AT (T80 N):=fnA zq (K81 N) (.two .auto (.two (.two .auto (.one (.by_ (zK N)))) .auto)) Tryz.func80 (.cons (qF N) .nil)
def T43(N:Nat):FT:=(43,zP [.str] [(.int .i64),.bool] fun x=>ko N x.1)::(T80 N)
theorem K43(N:Nat):AT (T43 N):=fnA zq (K80 N) .auto Tryz.func43 .nil
def T96(N:Nat):FT:=(96,zP [.u8] [.bool] fun x=>zau N x.1)::(T43 N)
theorem K96(N:Nat):AT (T96 N):=fnA zq (K43 N) .auto Tryz.func96 .nil
def zya(N:Nat):FT:=(128,zP [.u8] [.bool] fun x=>zU N x.1)::(T96 N)
theorem zAx(N:Nat):AT (zya N):=fnA zq (K96 N) .auto Tryz.func128 .nil
def T75(N:Nat):FT:=(75,zP [.str,.str] [.bool] fun x=>jC N x.1 x.2.1)::(zya N)
theorem K75(N:Nat):AT (T75 N):=fnA zq (zAx N) .auto Tryz.func75 .nil
def zyC(N:Nat):FT:=(210,zP [.str,.str] [.str,.bool] fun x=>jB N x.1 x.2.1)::(T75 N)
theorem zAT(N:Nat):AT (zyC N):=fnA zq (K75 N) .auto Tryz.func210 .nil
def zyv(N:Nat):FT:=(192,zP [.str,.str] [.str,.bool] fun x=>jS N x.1 x.2.1)::(zyC N)
theorem zAN(N:Nat):AT (zyv N):=fnA zq (zAT N) .auto Tryz.func192 .nil
def zyu(N:Nat):FT:=(191,zP [.str,.str] [.bool] fun x=>qH N x.1 x.2.1)::(zyv N)
theorem zAM(N:Nat):AT (zyu N):=fnA zq (zAN N) .auto Tryz.func191 .nil
def zyl(N:Nat):FT:=(162,zP [.str,.str] [.str,.bool] fun x=>qG N x.1 x.2.1)::(zyu N)
theorem zAG(N:Nat):AT (zyl N):=fnA zq (zAM N) .auto Tryz.func162 .nil
def zyb(N:Nat):FT:=(133,zP [.str,.str] [.str,.bool] fun x=>qg N x.1 x.2.1)::(zyl N)
theorem zxZ(N:Nat):AT (zyb N):=fnA zq (zAG N) .auto Tryz.func133 .nil
def kg(N:Nat):LF:=zp [(26388279066627,.u8)] ⟨.u8::.drop::.drop::(.gs 0 1572865)::.drop::.drop::(.int .i64)::dr 14 [],[.seq .u8 1572865 0 false]⟩ [(.exit 0,⟨dr 3 ((.gs 0 1572865)::dr 17 []),[.seq .u8 1572865 0 false]⟩)] (lsT [.c,.i,(.l .u8)] (fun x=>kq N N x.1 x.2.1 x.2.2.1) fun R o κ=>κ 0 [.l .u8 o])
theorem za3(N:Nat):Lp Tryz.f98 [1,1,0,1,2] (kg N):=zW zq (zxZ N) .auto .nil [.c,.i,(.l .u8)] [[(.l .u8)]] (fun m x=>kq N m x.1 x.2.1 x.2.2.1) ⟨fun x=>x.1,()⟩ N
def T98(N:Nat):FT:=(98,zP [.u8] [(.sl .u8)] fun x=>zbJ N x.1)::(zyb N)
theorem K98(N:Nat):AT (T98 N):=fnA zq (zxZ N) (.two .auto (.two .auto (.two (.two .auto (.one (.by_ (kg N)))) .auto))) Tryz.func98 (.cons (za3 N) .nil)
def kh(N:Nat):LF:=zp [] ⟨.u8::dr 4 ((.gs 0 0)::(.cst (.int .i64 (5:Int)))::(.int .i64)::dr 10 []),[.seq .str 0 0 true]⟩ [(.ret,⟨.drop::.drop::.str::dr 15 [],[.seq .str 0 0 true]⟩),(.exit 0,⟨dr 18 [],[.seq .str 0 0 true]⟩)] (lsT [.c,.i,(.l .str)] (fun x=>kr N N x.1 x.2.1 x.2.2.1) fun R o κ=>(ze o (fun a9=>κ 0 [.s a9.1,.l .str a9.2]) (fun b10=>κ 1 [.l .str b10])))
theorem za4(N:Nat):Lp Tryz.f99 [1,0,1,2] (kh N):=zW zq (K98 N) .auto .nil [.c,.i,(.l .str)] [[.s,(.l .str)],[(.l .str)]] (fun m x=>kr N m x.1 x.2.1 x.2.2.1) ⟨fun x=>(Sum.inl (x.1,x.2.1)),fun x=>(Sum.inr x.1),()⟩ N
def T99(N:Nat):FT:=(99,zP [.u8] [.str] fun x=>zc5 N x.1)::(T98 N)
theorem K99(N:Nat):AT (T99 N):=fnA zq (K98 N) (.two .auto (.two (.two .auto (.one (.by_ (kh N)))) .auto)) Tryz.func99 (.cons (za4 N) .nil)
def j3(N:Nat):LF:=zp [] ⟨.drop::(.map 0)::dr 3 ((.isl .u8)::(.int .i64)::(.int .i64)::dr 10 []),[.kv .str .u8 0]⟩ [(.exit 0,⟨.drop::(.map 0)::dr 16 [],[.kv .str .u8 0]⟩)] (lsT [(.l .u8),.i,.i,(.l (.pair .str .u8))] (fun x=>jn N N x.1 x.2.1 x.2.2.1 x.2.2.2.1) fun R o κ=>κ 0 [.l (.pair .str .u8) o])
def j4(N:Nat):LF:=zp [] ⟨dr 7 (.u8::(.map 0)::dr 24 ((.gs 1 0)::(.int .i64)::(.int .i64)::dr 17 [])),[.kv .str .u8 0,.seq .str 0 0 true]⟩ [(.ret,⟨.drop::.drop::.u8::(.cst (.bool false))::dr 49 [],[.kv .str .u8 0,.seq .str 0 0 true]⟩),(.exit 0,⟨dr 7 (.u8::dr 45 []),[.kv .str .u8 0,.seq .str 0 0 true]⟩)] (lsT [.c,.i,.i,(.l (.pair .str .u8)),(.l .str)] (fun x=>qK N N x.1 x.2.1 x.2.2.1 x.2.2.2.1 x.2.2.2.2.1) fun R o κ=>(ze o (fun a50=>κ 0 [.c a50.1,.l (.pair .str .u8) a50.2.1,.l .str a50.2.2]) (fun b51=>κ 1 [.c b51.1,.l (.pair .str .u8) b51.2.1,.l .str b51.2.2])))
theorem xZ(N:Nat):Lp Tryz.f193 [1,1,0,1,2] (j3 N):=zW zq (K99 N) .auto .nil [(.l .u8),.i,.i,(.l (.pair .str .u8))] [[(.l (.pair .str .u8))]] (fun m x=>jn N m x.1 x.2.1 x.2.2.1 x.2.2.2.1) ⟨fun x=>x.1,()⟩ N
theorem zaa(N:Nat):Lp Tryz.f163 [1,1,1,1,1,1,1,0,1,2] (j4 N):=zW zq (K99 N) .auto .nil [.c,.i,.i,(.l (.pair .str .u8)),(.l .str)] [[.c,(.l (.pair .str .u8)),(.l .str)],[.c,(.l (.pair .str .u8)),(.l .str)]] (fun m x=>qK N m x.1 x.2.1 x.2.2.1 x.2.2.2.1 x.2.2.2.2.1) ⟨fun x=>(Sum.inl (x.1,x.2.1,x.2.2.1)),fun x=>(Sum.inr (x.1,x.2.1,x.2.2.1)),()⟩ N
def zym(N:Nat):FT:=(163,zP [.str] [.u8,.bool] fun x=>wQ N x.1)::(T99 N)
theorem zAH(N:Nat):AT (zym N):=fnA zq (K99 N) (.two .auto (.two .auto (.two .auto (.two .auto (.two .auto (.two .auto (.two (.cal 0 193 (.two .auto (.two .auto (.two (.two .auto (.one (.by_ (j3 N)))) .auto))) .auto) (.two (.two .auto (.one (.by_ (j4 N)))) .auto)))))))) Tryz.func163 (.cons (xZ N) (.cons (zaa N) .nil))
def zyt(N:Nat):FT:=(190,zP [.str] [(.int .u32),.bool] fun x=>qv N x.1)::(zym N)
theorem zx2(N:Nat):AT (zyt N):=fnA zq (zAH N) .auto Tryz.func190 .nil
def jt(N:Nat):LF:=zp [(4,(.pair (.int .u32) (.int .u32)))] ⟨dr 4 ((.gs 1 1)::dr 10 ((.gs 0 0)::(.int .i64)::(.int .i64)::dr 36 [])),[.seq .str 0 0 true,.seq (.pair (.int .u32) (.int .u32)) 1 0 false]⟩ [(.ret,⟨.drop::.drop::(.cst .qC)::(.cst (.bool false))::dr 50 [],[.seq .str 0 0 true,.seq (.pair (.int .u32) (.int .u32)) 1 0 false]⟩),(.exit 0,⟨dr 4 ((.gs 1 1)::dr 49 []),[.seq .str 0 0 true,.seq (.pair (.int .u32) (.int .u32)) 1 0 false]⟩)] (lsT [.i,.i,(.l .str),(.l (.pair (.int .u32) (.int .u32)))] (fun x=>zD N N x.1 x.2.1 x.2.2.1 x.2.2.2.1) fun R o κ=>(ze o (fun a51=>κ 0 [.l .str a51.1,.l (.pair (.int .u32) (.int .u32)) a51.2]) (fun b52=>κ 1 [.l .str b52.1,.l (.pair (.int .u32) (.int .u32)) b52.2])))
theorem xj(N:Nat):Lp Tryz.f161 [1,1,0,1,2] (jt N):=zW zq (zx2 N) .auto .nil [.i,.i,(.l .str),(.l (.pair (.int .u32) (.int .u32)))] [[(.l .str),(.l (.pair (.int .u32) (.int .u32)))],[(.l .str),(.l (.pair (.int .u32) (.int .u32)))]] (fun m x=>zD N m x.1 x.2.1 x.2.2.1 x.2.2.2.1) ⟨fun x=>(Sum.inl (x.1,x.2.1)),fun x=>(Sum.inr (x.1,x.2.1)),()⟩ N
def zyk(N:Nat):FT:=(161,zP [.str] [(.sl (.pair (.int .u32) (.int .u32))),.bool] fun x=>wk N x.1)::(zyt N)
theorem zAF(N:Nat):AT (zyk N):=fnA zq (zx2 N) (.two .auto (.two .auto (.two (.two .auto (.one (.by_ (jt N)))) .auto))) Tryz.func161 (.cons (xj N) .nil)
def zx7(N:Nat):FT:=(102,zP [.str] [(.int .i64),.bool] fun x=>jF N x.1)::(zyk N)
theorem zlw(N:Nat):AT (zx7 N):=fnA zq (zAF N) .auto Tryz.func102 .nil
def qY(N:Nat):LF:=zp [] ⟨.drop::.str::(.ptr 11 0 1)::dr 4 ((.int .i64)::(.int .i64)::dr 10 []),(gn 11 [.cells [(.fn 128 [] [])] 0])⟩ [(.ret,⟨dr 4 ((.cst (.bool false))::dr 14 []),(gn 11 [.cells [(.fn 128 [] [])] 0])⟩),(.exit 0,⟨dr 19 [],(gn 11 [.cells [(.fn 128 [] [])] 0])⟩)] (lsT [.s,.i,.i] (fun x=>qb N N x.1 x.2.1 x.2.2.1) fun R o κ=>(ze o (fun a26=>κ 0 []) (fun b27=>κ 1 [])))
def qZ(N:Nat):LF:=zp [] ⟨(.ptr 3 0 10)::(.cst (.int .i64 (3:Int)))::(.fn 134 [(.ptr 3 0 10)] [])::dr 14 [],(.gone::.gone::.gone::.cells [(.isl uK1),.str,(.int .i64),.str,(.cst .qC),(.cst (.int .i64 (0:Int))),(.cst (.int .i64 (0:Int))),(.cst (.bool false)),.u8,(.cst .qC)] 0::(gn 11 []))⟩ [(.panic (.ifc 86 (.agg [])),⟨dr 17 [],(.gone::.gone::.gone::.cells [(.isl uK1),.str,(.int .i64),.str,(.cst .qC),(.cst (.int .i64 (0:Int))),(.cst (.int .i64 (0:Int))),(.cst (.bool false)),.u8,(.cst .qC)] 0::(gn 11 []))⟩),(.ret,⟨dr 17 [],(.gone::.gone::.gone::.cells [(.isl uK1),.str,(.int .i64),.str,(.cst .qC),(.cst (.int .i64 (0:Int))),(.cst (.int .i64 (0:Int))),(.cst (.bool false)),.u8,(.cst .qC)] 0::(gn 11 []))⟩)] (lsT [(.l uK1),.s,.i,.s,.c] (fun x=>zA N N x.1 x.2.1 x.2.2.1 x.2.2.2.1 x.2.2.2.2.1) fun R o κ=>(ze o (fun a54=>κ 0 [.l uK1 a54.1,.s a54.2.1,.i a54.2.2.1,.s a54.2.2.2.1,.c a54.2.2.2.2]) (fun b55=>κ 1 [.l uK1 b55.1,.s b55.2.1,.i b55.2.2.1,.s b55.2.2.2.1,.c b55.2.2.2.2])))
def ja(N:Nat):LF:=zp [] ⟨.drop::.str::(.ptr 11 0 1)::dr 4 ((.int .i64)::(.int .i64)::dr 10 []),(gn 11 [.cells [(.fn 128 [] [])] 0])⟩ [(.ret,⟨dr 4 ((.cst (.bool false))::dr 14 []),(gn 11 [.cells [(.fn 128 [] [])] 0])⟩),(.exit 0,⟨dr 19 [],(gn 11 [.cells [(.fn 128 [] [])] 0])⟩)] (lsT [.s,.i,.i] (fun x=>qc N N x.1 x.2.1 x.2.2.1) fun R o κ=>(ze o (fun a83=>κ 0 []) (fun b84=>κ 1 [])))
def qM(N:Nat):LF:=zp [] ⟨(.ptr 3 0 10)::(.cst (.int .i64 (3:Int)))::(.fn 134 [(.ptr 3 0 10)] [])::dr 14 [],(.gone::.gone::.gone::.cells [(.isl uK1),.str,(.int .i64),.str,(.cst .qC),(.cst (.int .i64 (0:Int))),(.cst (.int .i64 (0:Int))),(.cst (.bool false)),.u8,(.cst .qC)] 0::(gn 12 []))⟩ [(.panic (.ifc 86 (.agg [])),⟨dr 17 [],(.gone::.gone::.gone::.cells [(.isl uK1),.str,(.int .i64),.str,(.cst .qC),(.cst (.int .i64 (0:Int))),(.cst (.int .i64 (0:Int))),(.cst (.bool false)),.u8,(.cst .qC)] 0::(gn 12 []))⟩),(.ret,⟨dr 17 [],(.gone::.gone::.gone::.cells [(.isl uK1),.str,(.int .i64),.str,(.cst .qC),(.cst (.int .i64 (0:Int))),(.cst (.int .i64 (0:Int))),(.cst (.bool false)),.u8,(.cst .qC)] 0::(gn 12 []))⟩)] (lsT [(.l uK1),.s,.i,.s,.c] (fun x=>jq N N x.1 x.2.1 x.2.2.1 x.2.2.2.1 x.2.2.2.2.1) fun R o κ=>(ze o (fun a108=>κ 0 [.l uK1 a108.1,.s a108.2.1,.i a108.2.2.1,.s a108.2.2.2.1,.c a108.2.2.2.2]) (fun b109=>κ 1 [.l uK1 b109.1,.s b109.2.1,.i b109.2.2.1,.s b109.2.2.2.1,.c b109.2.2.2.2])))
def qN(N:Nat):LF:=zp [] ⟨(.ptr 3 0 10)::(.cst (.int .i64 (3:Int)))::(.fn 131 [(.ptr 3 0 10)] [])::dr 14 [],(.gone::.gone::.gone::.cells [(.isl uK1),.str,(.int .i64),(.cst (.str ([]:List UInt8))),(.isl (.pair (.int .u32) (.int .u32))),(.int .i64),(.cst (.int .i64 (0:Int))),(.cst (.bool false)),.u8,(.cst .qC)] 0::(gn 11 []))⟩ [(.panic (.ifc 86 (.agg [])),⟨dr 17 [],(.gone::.gone::.gone::.cells [(.isl uK1),.str,(.int .i64),(.cst (.str ([]:List UInt8))),(.isl (.pair (.int .u32) (.int .u32))),(.int .i64),(.cst (.int .i64 (0:Int))),(.cst (.bool false)),.u8,(.cst .qC)] 0::(gn 11 []))⟩),(.ret,⟨dr 17 [],(.gone::.gone::.gone::.cells [(.isl uK1),.str,(.int .i64),(.cst (.str ([]:List UInt8))),(.isl (.pair (.int .u32) (.int .u32))),(.int .i64),(.cst (.int .i64 (0:Int))),(.cst (.bool false)),.u8,(.cst .qC)] 0::(gn 11 []))⟩)] (lsT [(.l uK1),.s,.i,(.l (.pair (.int .u32) (.int .u32))),.i,.c] (fun x=>zt N N x.1 x.2.1 x.2.2.1 x.2.2.2.1 x.2.2.2.2.1 x.2.2.2.2.2.1) fun R o κ=>(ze o (fun a158=>κ 0 [.l uK1 a158.1,.s a158.2.1,.i a158.2.2.1,.l (.pair (.int .u32) (.int .u32)) a158.2.2.2.1,.i a158.2.2.2.2.1,.c a158.2.2.2.2.2]) (fun b159=>κ 1 [.l uK1 b159.1,.s b159.2.1,.i b159.2.2.1,.l (.pair (.int .u32) (.int .u32)) b159.2.2.2.1,.i b159.2.2.2.2.1,.c b159.2.2.2.2.2])))
def qO(N:Nat):LF:=zp [] ⟨(.ptr 3 0 10)::(.cst (.int .i64 (3:Int)))::(.fn 134 [(.ptr 3 0 10)] [])::dr 14 [],(.gone::.gone::.gone::.cells [(.isl uK1),.str,(.int .i64),(.cst (.str ([]:List UInt8))),(.isl (.pair (.int .u32) (.int .u32))),(.cst (.int .i64 (0:Int))),(.int .i64),.bool,.u8,(.cst .qC)] 0::(gn 16 []))⟩ [(.panic (.ifc 86 (.agg [])),⟨dr 17 [],(.gone::.gone::.gone::.cells [(.isl uK1),.str,(.int .i64),(.cst (.str ([]:List UInt8))),(.isl (.pair (.int .u32) (.int .u32))),(.cst (.int .i64 (0:Int))),(.int .i64),.bool,.u8,(.cst .qC)] 0::(gn 16 []))⟩),(.ret,⟨dr 17 [],(.gone::.gone::.gone::.cells [(.isl uK1),.str,(.int .i64),(.cst (.str ([]:List UInt8))),(.isl (.pair (.int .u32) (.int .u32))),(.cst (.int .i64 (0:Int))),(.int .i64),.bool,.u8,(.cst .qC)] 0::(gn 16 []))⟩)] (lsT [(.l uK1),.s,.i,(.l (.pair (.int .u32) (.int .u32))),.i,.b,.c] (fun x=>zv N N x.1 x.2.1 x.2.2.1 x.2.2.2.1 x.2.2.2.2.1 x.2.2.2.2.2.1 x.2.2.2.2.2.2.1) fun R o κ=>(ze o (fun a195=>κ 0 [.l uK1 a195.1,.s a195.2.1,.i a195.2.2.1,.l (.pair (.int .u32) (.int .u32)) a195.2.2.2.1,.i a195.2.2.2.2.1,.b a195.2.2.2.2.2.1,.c a195.2.2.2.2.2.2]) (fun b196=>κ 1 [.l uK1 b196.1,.s b196.2.1,.i b196.2.2.1,.l (.pair (.int .u32) (.int .u32)) b196.2.2.2.1,.i b196.2.2.2.2.1,.b b196.2.2.2.2.2.1,.c b196.2.2.2.2.2.2])))
def qP(N:Nat):LF:=zp [] ⟨(.ptr 3 0 10)::(.cst (.int .i64 (0:Int)))::(.fn 134 [(.ptr 3 0 10)] [])::dr 14 [],(.gone::.gone::.gone::.cells [(.isl uK1),.str,(.int .i64),(.cst (.str ([]:List UInt8))),(.isl (.pair (.int .u32) (.int .u32))),(.cst (.int .i64 (0:Int))),(.int .i64),.bool,.u8,(.cst .qC)] 0::(gn 14 []))⟩ [(.panic (.ifc 86 (.agg [])),⟨dr 17 [],(.gone::.gone::.gone::.cells [(.isl uK1),.str,(.int .i64),(.cst (.str ([]:List UInt8))),(.isl (.pair (.int .u32) (.int .u32))),(.cst (.int .i64 (0:Int))),(.int .i64),.bool,.u8,(.cst .qC)] 0::(gn 14 []))⟩),(.ret,⟨dr 17 [],(.gone::.gone::.gone::.cells [(.isl uK1),.str,(.int .i64),(.cst (.str ([]:List UInt8))),(.isl (.pair (.int .u32) (.int .u32))),(.cst (.int .i64 (0:Int))),(.int .i64),.bool,.u8,(.cst .qC)] 0::(gn 14 []))⟩)] (lsT [(.l uK1),.s,.i,(.l (.pair (.int .u32) (.int .u32))),.i,.b,.c] (fun x=>zB N N x.1 x.2.1 x.2.2.1 x.2.2.2.1 x.2.2.2.2.1 x.2.2.2.2.2.1 x.2.2.2.2.2.2.1) fun R o κ=>(ze o (fun a224=>κ 0 [.l uK1 a224.1,.s a224.2.1,.i a224.2.2.1,.l (.pair (.int .u32) (.int .u32)) a224.2.2.2.1,.i a224.2.2.2.2.1,.b a224.2.2.2.2.2.1,.c a224.2.2.2.2.2.2]) (fun b225=>κ 1 [.l uK1 b225.1,.s b225.2.1,.i b225.2.2.1,.l (.pair (.int .u32) (.int .u32)) b225.2.2.2.1,.i b225.2.2.2.2.1,.b b225.2.2.2.2.2.1,.c b225.2.2.2.2.2.2])))
theorem kJ(N:Nat):Lp Tryz.f91 [1,0,1,2] (qY N):=zW zq (zlw N) .auto .nil [.s,.i,.i] [[],[]] (fun m x=>qb N m x.1 x.2.1 x.2.2.1) ⟨fun _=>(Sum.inl ()),fun _=>(Sum.inr ()),()⟩ N
theorem kK(N:Nat):Lp Tryz.f132 [2] (qZ N):=zW zq (zlw N) .auto .nil [(.l uK1),.s,.i,.s,.c] [[(.l uK1),.s,.i,.s,.c],[(.l uK1),.s,.i,.s,.c]] (fun m x=>zA N m x.1 x.2.1 x.2.2.1 x.2.2.2.1 x.2.2.2.2.1) ⟨fun x=>(Sum.inl (x.1,x.2.1,x.2.2.1,x.2.2.2.1,x.2.2.2.2.1)),fun x=>(Sum.inr (x.1,x.2.1,x.2.2.1,x.2.2.2.1,x.2.2.2.2.1)),()⟩ N
theorem kL(N:Nat):Lp Tryz.f91 [1,0,1,2] (ja N):=zW zq (zlw N) .auto .nil [.s,.i,.i] [[],[]] (fun m x=>qc N m x.1 x.2.1 x.2.2.1) ⟨fun _=>(Sum.inl ()),fun _=>(Sum.inr ()),()⟩ N
theorem kz(N:Nat):Lp Tryz.f132 [2] (qM N):=zW zq (zlw N) .auto .nil [(.l uK1),.s,.i,.s,.c] [[(.l uK1),.s,.i,.s,.c],[(.l uK1),.s,.i,.s,.c]] (fun m x=>jq N m x.1 x.2.1 x.2.2.1 x.2.2.2.1 x.2.2.2.2.1) ⟨fun x=>(Sum.inl (x.1,x.2.1,x.2.2.1,x.2.2.2.1,x.2.2.2.2.1)),fun x=>(Sum.inr (x.1,x.2.1,x.2.2.1,x.2.2.2.1,x.2.2.2.2.1)),()⟩ N
theorem kA(N:Nat):Lp Tryz.f132 [2] (qN N):=zW zq (zlw N) .auto .nil [(.l uK1),.s,.i,(.l (.pair (.int .u32) (.int .u32))),.i,.c] [[(.l uK1),.s,.i,(.l (.pair (.int .u32) (.int .u32))),.i,.c],[(.l uK1),.s,.i,(.l (.pair (.int .u32) (.int .u32))),.i,.c]] (fun m x=>zt N m x.1 x.2.1 x.2.2.1 x.2.2.2.1 x.2.2.2.2.1 x.2.2.2.2.2.1) ⟨fun x=>(Sum.inl (x.1,x.2.1,x.2.2.1,x.2.2.2.1,x.2.2.2.2.1,x.2.2.2.2.2.1)),fun x=>(Sum.inr (x.1,x.2.1,x.2.2.1,x.2.2.2.1,x.2.2.2.2.1,x.2.2.2.2.2.1)),()⟩ N
theorem kB(N:Nat):Lp Tryz.f132 [2] (qO N):=zW zq (zlw N) .auto .nil [(.l uK1),.s,.i,(.l (.pair (.int .u32) (.int .u32))),.i,.b,.c] [[(.l uK1),.s,.i,(.l (.pair (.int .u32) (.int .u32))),.i,.b,.c],[(.l uK1),.s,.i,(.l (.pair (.int .u32) (.int .u32))),.i,.b,.c]] (fun m x=>zv N m x.1 x.2.1 x.2.2.1 x.2.2.2.1 x.2.2.2.2.1 x.2.2.2.2.2.1 x.2.2.2.2.2.2.1) ⟨fun x=>(Sum.inl (x.1,x.2.1,x.2.2.1,x.2.2.2.1,x.2.2.2.2.1,x.2.2.2.2.2.1,x.2.2.2.2.2.2.1)),fun x=>(Sum.inr (x.1,x.2.1,x.2.2.1,x.2.2.2.1,x.2.2.2.2.1,x.2.2.2.2.2.1,x.2.2.2.2.2.2.1)),()⟩ N
theorem kC(N:Nat):Lp Tryz.f132 [2] (qP N):=zW zq (zlw N) .auto .nil [(.l uK1),.s,.i,(.l (.pair (.int .u32) (.int .u32))),.i,.b,.c] [[(.l uK1),.s,.i,(.l (.pair (.int .u32) (.int .u32))),.i,.b,.c],[(.l uK1),.s,.i,(.l (.pair (.int .u32) (.int .u32))),.i,.b,.c]] (fun m x=>zB N m x.1 x.2.1 x.2.2.1 x.2.2.2.1 x.2.2.2.2.1 x.2.2.2.2.2.1 x.2.2.2.2.2.2.1) ⟨fun x=>(Sum.inl (x.1,x.2.1,x.2.2.1,x.2.2.2.1,x.2.2.2.2.1,x.2.2.2.2.2.1,x.2.2.2.2.2.2.1)),fun x=>(Sum.inr (x.1,x.2.1,x.2.2.1,x.2.2.2.1,x.2.2.2.2.1,x.2.2.2.2.2.1,x.2.2.2.2.2.2.1)),()⟩ N
def T16(N:Nat):FT:=(16,zP [(.sl .u8)] [uK2,.bool] fun x=>wv N x.1)::(zx7 N)
theorem K16(N:Nat):AT (T16 N):=zBX zq (zlw N) (.two .auto (.two .auto (.two .auto (.two .auto (.two .auto (.two .auto (.two .auto (.two .auto (.two .auto (.two .auto (.two (.cal 4 84 (.two .auto (.two .auto (.two .auto (.two (.cal 4 47 (.two .auto (.two (.cal 6 91 (.two .auto (.two (.two .auto (.one (.by_ (qY N)))) .auto)) .auto) .auto)) .auto) .auto)))) (.cal 4 85 (.two (.cal 1 84 (.two .auto (.two .auto (.two .auto (.two (.cal 4 47 (.two .auto (.two (.cal 6 91 (.two .auto (.two (.two .auto (.one (.by_ (ja N)))) .auto)) .auto) .auto)) .auto) .auto)))) .auto) (.two .auto (.two (.two .auto (.two (.two (.cal 1 129 (.two .auto (.two (.two .auto (.two (.cal 3 132 (.one (.by_ (zAd 16 (qM N)  (qZ N)))) .auto) .auto)) .auto)) .auto) .auto) .auto)) .auto))) (.cal 4 86 (.two .auto (.two .auto (.two .auto (.two (.cal 3 132 (.one (.by_ (qN N))) .auto) .auto)))) (.cal 4 87 (.two .auto (.two .auto (.two .auto (.two .auto (.two .auto (.two .auto (.two (.two .auto (.two (.two (.cal 1 129 (.two .auto (.two (.two .auto (.two (.cal 3 132 (.one (.by_ (qO N))) .auto) .auto)) .auto)) .auto) .auto) .auto)) (.cal 3 132 (.one (.by_ (qP N))) .auto)))))))) .auto)))) .auto))))))))))) Tryz.func16 (.cons (kJ N) (.cons (kL N) (.cons (zvs (n:=16) (kz N) (kK N)) (.cons (kA N) (.cons (kB N) (.cons (kC N) .nil))))))
def zBL(N:Nat):FT:=(153,zP [.u8] [.bool] fun x=>xT N x.1)::(T16 N)
theorem zB7(N:Nat):AT (zBL N):=fnA zq (K16 N) .auto Tryz.func153 .nil
def zBC(N:Nat):FT:=(105,zP [.u8] [.bool] fun x=>zbP N x.1)::(zBL N)
theorem zB4(N:Nat):AT (zBC N):=fnA zq (zB7 N) .auto Tryz.func105 .nil
def zBO(N:Nat):FT:=(183,zP [.u8] [.bool] fun x=>zaT N x.1)::(zBC N)
theorem zBB(N:Nat):AT (zBO N):=fnA zq (zB4 N) .auto Tryz.func183 .nil
def za9(N:Nat):LF:=zp [] ⟨(.int .u32)::.drop::.drop::.str::dr 18 [],[]⟩ [(.exit 0,⟨(.int .u32)::.drop::.drop::.str::dr 18 [],[]⟩)] (lsT [.i,.s] (fun x=>jj N N x.1 x.2.1) fun R o κ=>κ 0 [.i o.1,.s o.2])
theorem zex(N:Nat):Lp Tryz.f109 [1,1,0,2] (za9 N):=zW zq (zBB N) .auto .nil [.i,.s] [[.i,.s]] (fun m x=>jj N m x.1 x.2.1) ⟨fun x=>(x.1,x.2.1),()⟩ N
def zBG(N:Nat):FT:=(109,zP [(.int .u32)] [.str] fun x=>wE N x.1)::(zBO N)
theorem zBw(N:Nat):AT (zBG N):=fnA zq (zBB N) (.two .auto (.two .auto (.two (.one (.by_ (za9 N))) .auto))) Tryz.func109 (.cons (zex N) .nil)
def zbN(N:Nat):LF:=zp [] ⟨.str::dr 3 ((.int .u64)::(.int .i64)::dr 38 []),[]⟩ [(.ret,⟨.drop::.drop::(.cst (.int .u32 (0:Int)))::(.cst (.bool false))::dr 40 [],[]⟩),(.exit 0,⟨.str::dr 3 ((.int .u64)::dr 39 []),[]⟩)] (lsT [.s,.i,.i] (fun x=>jJ N N x.1 x.2.1 x.2.2.1) fun R o κ=>(ze o (fun a8=>κ 0 []) (fun b9=>κ 1 [.s b9.1,.i b9.2])))
theorem zeM(N:Nat):Lp Tryz.f155 [1,1,1,0,1,2] (zbN N):=zW zq (zBw N) .auto .nil [.s,.i,.i] [[],[.s,.i]] (fun m x=>jJ N m x.1 x.2.1 x.2.2.1) ⟨fun _=>(Sum.inl ()),fun x=>(Sum.inr (x.1,x.2.1)),()⟩ N
def zBN(N:Nat):FT:=(155,zP [.str] [(.int .u32),.bool] fun x=>zaG N x.1)::(zBG N)
theorem zB9(N:Nat):AT (zBN N):=fnA zq (zBw N) (.two .auto (.two .auto (.two .auto (.two (.two .auto (.one (.by_ (zbN N)))) .auto)))) Tryz.func155 (.cons (zeM N) .nil)
def T65(N:Nat):FT:=(65,zP [(.int .i64)] [.str] fun x=>xV N x.1)::(zBN N)
theorem K65(N:Nat):AT (T65 N):=fnA zq (zB9 N) .auto Tryz.func65 .nil
def zBF(N:Nat):FT:=(108,zP [(.int .i64)] [.str] fun x=>zdL N x.1)::(T65 N)
theorem zB6(N:Nat):AT (zBF N):=fnA zq (K65 N) .auto Tryz.func108 .nil
def zBI(N:Nat):FT:=(111,zP [(.int .i64)] [.str] fun x=>xH N x.1)::(zBF N)
theorem zBy(N:Nat):AT (zBI N):=fnA zq (zB6 N) .auto Tryz.func111 .nil
def j6(N:Nat):LF:=zp [] ⟨.drop::.drop::(.ptr 0 0 9)::(.ptr 1 0 9)::.drop::(.int .i64)::dr 81 [],[.cells [.str,(.int .i64),.str,(.isl (.pair (.int .u32) (.int .u32))),(.int .i64),(.int .i64),.bool,.u8,(.isl .u8)] 0,.cells [.str,(.int .i64),.str,(.isl (.pair (.int .u32) (.int .u32))),(.int .i64),(.int .i64),.bool,.u8,(.isl .u8)] 0]⟩ [(.ret,⟨dr 4 ((.cst (.bool false))::dr 82 []),[.cells [.str,(.int .i64),.str,(.isl (.pair (.int .u32) (.int .u32))),(.int .i64),(.int .i64),.bool,.u8,(.isl .u8)] 0,.cells [.str,(.int .i64),.str,(.isl (.pair (.int .u32) (.int .u32))),(.int .i64),(.int .i64),.bool,.u8,(.isl .u8)] 0]⟩),(.exit 0,⟨.drop::.drop::(.ptr 0 0 9)::(.ptr 1 0 9)::dr 83 [],[.cells [.str,(.int .i64),.str,(.isl (.pair (.int .u32) (.int .u32))),(.int .i64),(.int .i64),.bool,.u8,(.isl .u8)] 0,.cells [.str,(.int .i64),.str,(.isl (.pair (.int .u32) (.int .u32))),(.int .i64),(.int .i64),.bool,.u8,(.isl .u8)] 0]⟩)] (lsT [.i,.s,.i,.s,(.l (.pair (.int .u32) (.int .u32))),.i,.i,.b,.c,(.l .u8),.s,.i,.s,(.l (.pair (.int .u32) (.int .u32))),.i,.i,.b,.c,(.l .u8)] (fun x=>qh N N x.1 x.2.1 x.2.2.1 x.2.2.2.1 x.2.2.2.2.1 x.2.2.2.2.2.1 x.2.2.2.2.2.2.1 x.2.2.2.2.2.2.2.1 x.2.2.2.2.2.2.2.2.1 x.2.2.2.2.2.2.2.2.2.1 x.2.2.2.2.2.2.2.2.2.2.1 x.2.2.2.2.2.2.2.2.2.2.2.1 x.2.2.2.2.2.2.2.2.2.2.2.2.1 x.2.2.2.2.2.2.2.2.2.2.2.2.2.1 x.2.2.2.2.2.2.2.2.2.2.2.2.2.2.1 x.2.2.2.2.2.2.2.2.2.2.2.2.2.2.2.1 x.2.2.2.2.2.2.2.2.2.2.2.2.2.2.2.2.1 x.2.2.2.2.2.2.2.2.2.2.2.2.2.2.2.2.2.1 x.2.2.2.2.2.2.2.2.2.2.2.2.2.2.2.2.2.2.1) fun R o κ=>(ze o (fun a41=>κ 0 [.s a41.1,.i a41.2.1,.s a41.2.2.1,.l (.pair (.int .u32) (.int .u32)) a41.2.2.2.1,.i a41.2.2.2.2.1,.i a41.2.2.2.2.2.1,.b a41.2.2.2.2.2.2.1,.c a41.2.2.2.2.2.2.2.1,.l .u8 a41.2.2.2.2.2.2.2.2.1,.s a41.2.2.2.2.2.2.2.2.2.1,.i a41.2.2.2.2.2.2.2.2.2.2.1,.s a41.2.2.2.2.2.2.2.2.2.2.2.1,.l (.pair (.int .u32) (.int .u32)) a41.2.2.2.2.2.2.2.2.2.2.2.2.1,.i a41.2.2.2.2.2.2.2.2.2.2.2.2.2.1,.i a41.2.2.2.2.2.2.2.2.2.2.2.2.2.2.1,.b a41.2.2.2.2.2.2.2.2.2.2.2.2.2.2.2.1,.c a41.2.2.2.2.2.2.2.2.2.2.2.2.2.2.2.2.1,.l .u8 a41.2.2.2.2.2.2.2.2.2.2.2.2.2.2.2.2.2]) (fun b42=>κ 1 [.s b42.1,.i b42.2.1,.s b42.2.2.1,.l (.pair (.int .u32) (.int .u32)) b42.2.2.2.1,.i b42.2.2.2.2.1,.i b42.2.2.2.2.2.1,.b b42.2.2.2.2.2.2.1,.c b42.2.2.2.2.2.2.2.1,.l .u8 b42.2.2.2.2.2.2.2.2.1,.s b42.2.2.2.2.2.2.2.2.2.1,.i b42.2.2.2.2.2.2.2.2.2.2.1,.s b42.2.2.2.2.2.2.2.2.2.2.2.1,.l (.pair (.int .u32) (.int .u32)) b42.2.2.2.2.2.2.2.2.2.2.2.2.1,.i b42.2.2.2.2.2.2.2.2.2.2.2.2.2.1,.i b42.2.2.2.2.2.2.2.2.2.2.2.2.2.2.1,.b b42.2.2.2.2.2.2.2.2.2.2.2.2.2.2.2.1,.c b42.2.2.2.2.2.2.2.2.2.2.2.2.2.2.2.2.1,.l .u8 b42.2.2.2.2.2.2.2.2.2.2.2.2.2.2.2.2.2])))
theorem zae(N:Nat):Lp Tryz.f17 [1,1,0,1,2] (j6 N):=zW zq (zBy N) .auto .nil [.i,.s,.i,.s,(.l (.pair (.int .u32) (.int .u32))),.i,.i,.b,.c,(.l .u8),.s,.i,.s,(.l (.pair (.int .u32) (.int .u32))),.i,.i,.b,.c,(.l .u8)] [[.s,.i,.s,(.l (.pair (.int .u32) (.int .u32))),.i,.i,.b,.c,(.l .u8),.s,.i,.s,(.l (.pair (.int .u32) (.int .u32))),.i,.i,.b,.c,(.l .u8)],[.s,.i,.s,(.l (.pair (.int .u32) (.int .u32))),.i,.i,.b,.c,(.l .u8),.s,.i,.s,(.l (.pair (.int .u32) (.int .u32))),.i,.i,.b,.c,(.l .u8)]] (fun m x=>qh N m x.1 x.2.1 x.2.2.1 x.2.2.2.1 x.2.2.2.2.1 x.2.2.2.2.2.1 x.2.2.2.2.2.2.1 x.2.2.2.2.2.2.2.1 x.2.2.2.2.2.2.2.2.1 x.2.2.2.2.2.2.2.2.2.1 x.2.2.2.2.2.2.2.2.2.2.1 x.2.2.2.2.2.2.2.2.2.2.2.1 x.2.2.2.2.2.2.2.2.2.2.2.2.1 x.2.2.2.2.2.2.2.2.2.2.2.2.2.1 x.2.2.2.2.2.2.2.2.2.2.2.2.2.2.1 x.2.2.2.2.2.2.2.2.2.2.2.2.2.2.2.1 x.2.2.2.2.2.2.2.2.2.2.2.2.2.2.2.2.1 x.2.2.2.2.2.2.2.2.2.2.2.2.2.2.2.2.2.1 x.2.2.2.2.2.2.2.2.2.2.2.2.2.2.2.2.2.2.1) ⟨fun x=>(Sum.inl (x.1,x.2.1,x.2.2.1,x.2.2.2.1,x.2.2.2.2.1,x.2.2.2.2.2.1,x.2.2.2.2.2.2.1,x.2.2.2.2.2.2.2.1,x.2.2.2.2.2.2.2.2.1,x.2.2.2.2.2.2.2.2.2.1,x.2.2.2.2.2.2.2.2.2.2.1,x.2.2.2.2.2.2.2.2.2.2.2.1,x.2.2.2.2.2.2.2.2.2.2.2.2.1,x.2.2.2.2.2.2.2.2.2.2.2.2.2.1,x.2.2.2.2.2.2.2.2.2.2.2.2.2.2.1,x.2.2.2.2.2.2.2.2.2.2.2.2.2.2.2.1,x.2.2.2.2.2.2.2.2.2.2.2.2.2.2.2.2.1,x.2.2.2.2.2.2.2.2.2.2.2.2.2.2.2.2.2.1)),fun x=>(Sum.inr (x.1,x.2.1,x.2.2.1,x.2.2.2.1,x.2.2.2.2.1,x.2.2.2.2.2.1,x.2.2.2.2.2.2.1,x.2.2.2.2.2.2.2.1,x.2.2.2.2.2.2.2.2.1,x.2.2.2.2.2.2.2.2.2.1,x.2.2.2.2.2.2.2.2.2.2.1,x.2.2.2.2.2.2.2.2.2.2.2.1,x.2.2.2.2.2.2.2.2.2.2.2.2.1,x.2.2.2.2.2.2.2.2.2.2.2.2.2.1,x.2.2.2.2.2.2.2.2.2.2.2.2.2.2.1,x.2.2.2.2.2.2.2.2.2.2.2.2.2.2.2.1,x.2.2.2.2.2.2.2.2.2.2.2.2.2.2.2.2.1,x.2.2.2.2.2.2.2.2.2.2.2.2.2.2.2.2.2.1)),()⟩ N
def T17(N:Nat):FT:=(17,zP [uK2,uK2] [.bool] fun x=>zS N x.1 x.2.1)::(zBI N)
theorem K17(N:Nat):AT (T17 N):=fnA zq (zBy N) (.two .auto (.two .auto (.two (.two .auto (.one (.by_ (j6 N)))) .auto))) Tryz.func17 (.cons (zae N) .nil)
def T25(N:Nat):FT:=(25,zP [(.int .i64)] [.str] fun x=>qE N x.1)::(T17 N)
theorem K25(N:Nat):AT (T25 N):=fnA zq (K17 N) .auto Tryz.func25 .nil
def zC(N:Nat):LF:=zp [] ⟨(.isl (.pair (.int .u32) (.int .u32)))::(.isl (.pair (.int .u32) (.int .u32)))::dr 10 ((.int .i64)::(.int .i64)::dr 12 []),[]⟩ [(.ret,⟨dr 4 ((.cst (.bool false))::dr 21 []),[]⟩),(.exit 0,⟨dr 26 [],[]⟩)] (lsT [(.l (.pair (.int .u32) (.int .u32))),(.l (.pair (.int .u32) (.int .u32))),.i,.i] (fun x=>zw N N x.1 x.2.1 x.2.2.1 x.2.2.2.1) fun R o κ=>(ze o (fun a11=>κ 0 []) (fun b12=>κ 1 [])))
theorem qe(N:Nat):Lp Tryz.f93 [1,1,0,1,2] (zC N):=zW zq (K25 N) .auto .nil [(.l (.pair (.int .u32) (.int .u32))),(.l (.pair (.int .u32) (.int .u32))),.i,.i] [[],[]] (fun m x=>zw N m x.1 x.2.1 x.2.2.1 x.2.2.2.1) ⟨fun _=>(Sum.inl ()),fun _=>(Sum.inr ()),()⟩ N
def T93(N:Nat):FT:=(93,zP [(.sl (.pair (.int .u32) (.int .u32))),(.sl (.pair (.int .u32) (.int .u32)))] [.bool] fun x=>zI N x.1 x.2.1)::(T25 N)
theorem K93(N:Nat):AT (T93 N):=fnA zq (K25 N) (.two .auto (.two .auto (.two (.two .auto (.one (.by_ (zC N)))) .auto))) Tryz.func93 (.cons (qe N) .nil)
def T49(N:Nat):FT:=(49,zP [uK2,uK2] [.bool] fun x=>qU N x.1 x.2.1)::(T93 N)
theorem K49(N:Nat):AT (T49 N):=fnA zq (K93 N) .auto Tryz.func49 .nil
def jb(N:Nat):LF:=zp [] ⟨.drop::.str::(.ptr 1 0 1)::dr 4 ((.int .i64)::(.int .i64)::dr 10 []),[.gone,.cells [(.fn 48 [] [])] 0]⟩ [(.ret,⟨dr 4 ((.cst (.bool false))::dr 14 []),[.gone,.cells [(.fn 48 [] [])] 0]⟩),(.exit 0,⟨dr 19 [],[.gone,.cells [(.fn 48 [] [])] 0]⟩)] (lsT [.s,.i,.i] (fun x=>qd N N x.1 x.2.1 x.2.2.1) fun R o κ=>(ze o (fun a15=>κ 0 []) (fun b16=>κ 1 [])))
theorem kN(N:Nat):Lp Tryz.f91 [1,0,1,2] (jb N):=zW zq (K49 N) .auto .nil [.s,.i,.i] [[],[]] (fun m x=>qd N m x.1 x.2.1 x.2.2.1) ⟨fun _=>(Sum.inl ()),fun _=>(Sum.inr ()),()⟩ N
def T24(N:Nat):FT:=(24,zP [uK2] [.bool] fun x=>kM N x.1)::(T49 N)
theorem K24(N:Nat):AT (T24 N):=fnA zq (K49 N) (.two .auto (.two (.two (.cal 2 47 (.two .auto (.two (.cal 6 91 (.two .auto (.two (.two .auto (.one (.by_ (jb N)))) .auto)) .auto) .auto)) .auto) .auto) .auto)) Tryz.func24 (.cons (kN N) .nil)
def zcc(N:Nat):LF:=zp [] ⟨.str::.drop::.drop::(.int .i64)::dr 13 [],[]⟩ [(.ret,⟨.drop::.drop::(.cst (.bool false))::dr 14 [],[]⟩),(.exit 0,⟨.str::dr 16 [],[]⟩)] (lsT [.s,.i] (fun x=>j0 N N x.1 x.2.1) fun R o κ=>(ze o (fun a10=>κ 0 []) (fun b11=>κ 1 [.s b11])))
theorem zfl(N:Nat):Lp Tryz.f64 [1,0,1,2] (zcc N):=zW zq (K24 N) .auto .nil [.s,.i] [[],[.s]] (fun m x=>j0 N m x.1 x.2.1) ⟨fun _=>(Sum.inl ()),fun x=>(Sum.inr x.1),()⟩ N
def T64(N:Nat):FT:=(64,zP [.str] [.bool] fun x=>zbo N x.1)::(T24 N)
theorem K64(N:Nat):AT (T64 N):=fnA zq (K24 N) (.two .auto (.two (.two .auto (.one (.by_ (zcc N)))) .auto)) Tryz.func64 (.cons (zfl N) .nil)
def T30(N:Nat):FT:=(30,zP [uK2] [.bool] fun x=>zbq N x.1)::(T64 N)
theorem K30(N:Nat):AT (T30 N):=fnA zq (K64 N) .auto Tryz.func30 .nil
def T8(N:Nat):FT:=(8,zP [uK2] [.bool] fun x=>xL N x.1)::(T30 N)
theorem K8(N:Nat):AT (T8 N):=fnA zq (K30 N) .auto Tryz.func8 .nil
def zyd(N:Nat):FT:=(149,zpN uK3 [] [.bool] fun p x=>qa N p)::(T8 N)
theorem zAz(N:Nat):AT (zyd N):=fnP zq (K8 N) .auto Tryz.func149 .nil
def zye(N:Nat):FT:=(150,zpN uK3 [] [(.int .i64),.bool] fun p x=>jd N p)::(zyd N)
theorem zAA(N:Nat):AT (zye N):=fnP zq (zAz N) .auto Tryz.func150 .nil
def zyy(N:Nat):FT:=(198,zP [(.sl .u8),(.sl .u8)] [.bool] fun x=>zbl N x.1 x.2.1)::(zye N)
theorem zAP(N:Nat):AT (zyy N):=fnA zq (zAA N) .auto Tryz.func198 .nil
def zyz(N:Nat):FT:=(202,zP [(.sl .u8),(.sl .u8)] [.bool] fun x=>kX N x.1 x.2.1)::(zyy N)
theorem zAQ(N:Nat):AT (zyz N):=fnA zq (zAP N) .auto Tryz.func202 .nil
def zyo(N:Nat):FT:=(179,zP [(.sl .u8),(.sl .u8)] [(.sl .u8),.bool] fun x=>wq N x.1 x.2.1)::(zyz N)
theorem zx1(N:Nat):AT (zyo N):=fnA zq (zAQ N) .auto Tryz.func179 .nil
def z6(N:Nat):LF:=zp [] ⟨(.isl .u8)::.u8::dr 3 ((.int .i64)::dr 14 []),[]⟩ [(.ret,⟨dr 4 ((.int .i64)::dr 15 []),[]⟩),(.exit 0,⟨dr 20 [],[]⟩)] (lsT [(.l .u8),.c,.i] (fun x=>zz N N x.1 x.2.1 x.2.2.1) fun R o κ=>(ze o (fun a7=>κ 0 [.i a7]) (fun b8=>κ 1 [])))
theorem jz(N:Nat):Lp Tryz.f203 [1,0,1,2] (z6 N):=zW zq (zx1 N) .auto .nil [(.l .u8),.c,.i] [[.i],[]] (fun m x=>zz N m x.1 x.2.1 x.2.2.1) ⟨fun x=>(Sum.inl x.1),fun _=>(Sum.inr ()),()⟩ N
def zyA(N:Nat):FT:=(203,zP [(.sl .u8),.u8] [(.int .i64)] fun x=>jy N x.1 x.2.1)::(zyo N)
theorem zAR(N:Nat):AT (zyA N):=fnA zq (zx1 N) (.two .auto (.two (.two .auto (.one (.by_ (z6 N)))) .auto)) Tryz.func203 (.cons (jz N) .nil)
def zyp(N:Nat):FT:=(180,zP [(.sl .u8),.u8] [(.int .i64)] fun x=>qW N x.1 x.2.1)::(zyA N)
theorem zAI(N:Nat):AT (zyp N):=fnA zq (zAR N) .auto Tryz.func180 .nil
def zyf(N:Nat):FT:=(151,zP [(.sl .u8)] [(.int .i64),.bool] fun x=>wC N x.1)::(zyp N)
theorem zAB(N:Nat):AT (zyf N):=fnA zq (zAI N) .auto Tryz.func151 .nil
def zyg(N:Nat):FT:=(152,zpN uK3 [(.int .i64),(.sl .u8),(.int .i64)] [(.pair (.int .i64) (.sl .u8)),.bool] fun p x=>zV N p x.1 x.2.1 x.2.2.1)::(zyf N)
theorem zAC(N:Nat):AT (zyg N):=fnP zq (zAB N) .auto Tryz.func152 .nil
def zx8(N:Nat):FT:=(104,zpN uK3 [] [(.pair (.int .i64) (.sl .u8)),.bool] fun p x=>zJ N p)::(zyg N)
theorem zAv(N:Nat):AT (zx8 N):=fnP zq (zAC N) .auto Tryz.func104 .nil
def T63(N:Nat):FT:=(63,zpN uK3 [] [(.int .i64)] fun p x=>jc N p)::(zx8 N)
theorem K63(N:Nat):AT (T63 N):=fnP zq (zAv N) .auto Tryz.func63 .nil
def qw(N:Nat):LF:=zp [] ⟨(.yld 4)::(.ptr 3 0 1)::dr 16 [],[.cells [(.isl .u8),(.int .i64),(.int .i64),(.int .i64)] 0,.gone,.cells [(.gs 8 1)] 0,.cells [(.ptr 0 0 4)] 0,.loop [.drop,.drop,.drop,.drop,.drop,(.ptr 2 0 1),.drop,.drop,.drop,.drop,.drop,.drop,.drop,.drop,.drop,.drop,.drop,.drop,.drop,.drop,.drop] 464 0,.gone,.gone,.gone,.seq (.pair (.int .i64) (.sl .u8)) 1 0 false]⟩ [(.ret,⟨dr 18 [],[.cells [(.isl .u8),(.int .i64),(.int .i64),(.int .i64)] 0,.gone,.cells [(.gs 8 1)] 0,.cells [(.ptr 0 0 4)] 0,.loop [.drop,.drop,.drop,.drop,.drop,(.ptr 2 0 1),.drop,.drop,.drop,.drop,.drop,.drop,.drop,.drop,.drop,.drop,.drop,.drop,.drop,.drop,.drop] 464 0,.gone,.gone,.gone,.seq (.pair (.int .i64) (.sl .u8)) 1 0 false]⟩)] (lsT [(.l .u8),.i,.i,.i,(.l (.pair (.int .i64) (.sl .u8)))] (fun x=>qx N N x.1 x.2.1 x.2.2.1 x.2.2.2.1 x.2.2.2.2.1) fun R o κ=>κ 0 [.l .u8 o.1,.i o.2.1,.i o.2.2.1,.i o.2.2.2.1,.l (.pair (.int .i64) (.sl .u8)) o.2.2.2.2])
theorem xK(N:Nat):Lp Tryz.f103 [2] (qw N):=zW zq (K63 N) .auto .nil [(.l .u8),.i,.i,.i,(.l (.pair (.int .i64) (.sl .u8)))] [[(.l .u8),.i,.i,.i,(.l (.pair (.int .i64) (.sl .u8)))]] (fun m x=>qx N m x.1 x.2.1 x.2.2.1 x.2.2.2.1 x.2.2.2.2.1) ⟨fun x=>(x.1,x.2.1,x.2.2.1,x.2.2.2.1,x.2.2.2.2.1),()⟩ N
def T29(N:Nat):FT:=(29,zP [(.sl .u8)] [(.sl (.pair (.int .i64) (.sl .u8))),(.int .i64)] fun x=>qi N x.1)::(T63 N)
theorem K29(N:Nat):AT (T29 N):=fnA zq (K63 N) (.two .auto (.two .auto (.two .auto (.two .auto (.two (.two .auto (.one (.by_ (zuF Tryz.prog glA (zfj (T63 N)) Tryz.f29 [1,1,1,1,0,1,2] 464 (.cal 0 103 (.one (.two .auto (.by_ (qw N)))) .auto))))) .auto))))) Tryz.func29 (.cons (zB1 zq (K63 N) Tryz.f29 [1,1,1,1,0,1,2] 464 (.cal 0 103 (.one (.two .auto (.by_ (qw N)))) .auto) (.cons (xK N) .nil)) .nil)
def zdu(N:Nat):LF:=zp [] ⟨(.isl .u8)::dr 4 ((.int .i64)::dr 22 []),[]⟩ [(.ret,⟨dr 4 ((.int .i64)::dr 23 []),[]⟩),(.exit 0,⟨dr 28 [],[]⟩)] (lsT [(.l .u8),.i] (fun x=>ku N N x.1 x.2.1) fun R o κ=>(ze o (fun a6=>κ 0 [.i a6]) (fun b7=>κ 1 [])))
theorem zhm(N:Nat):Lp Tryz.f112 [1,0,1,2] (zdu N):=zW zq (K29 N) .auto .nil [(.l .u8),.i] [[.i],[]] (fun m x=>ku N m x.1 x.2.1) ⟨fun x=>(Sum.inl x.1),fun _=>(Sum.inr ()),()⟩ N
def zBJ(N:Nat):FT:=(112,zP [(.sl .u8),(.int .i64)] [(.int .i64)] fun x=>zc9 N x.1 x.2.1)::(T29 N)
theorem zBz(N:Nat):AT (zBJ N):=fnA zq (K29 N) (.two .auto (.two (.two .auto (.one (.by_ (zdu N)))) .auto)) Tryz.func112 (.cons (zhm N) .nil)
def zar(N:Nat):LF:=zp [] ⟨(.isl .u8)::dr 3 ((.int .i64)::(.int .i64)::dr 60 []),[]⟩ [(.exit 0,⟨(.isl .u8)::dr 3 ((.int .i64)::(.int .i64)::dr 60 []),[]⟩)] (lsT [(.l .u8),.i,.i] (fun x=>qJ N N x.1 x.2.1 x.2.2.1) fun R o κ=>κ 0 [.l .u8 o.1,.i o.2.1,.i o.2.2])
theorem zdG(N:Nat):Lp Tryz.f113 [1,1,1,1,0,2] (zar N):=zW zq (zBz N) .auto .nil [(.l .u8),.i,.i] [[(.l .u8),.i,.i]] (fun m x=>qJ N m x.1 x.2.1 x.2.2.1) ⟨fun x=>(x.1,x.2.1,x.2.2.1),()⟩ N
def zBK(N:Nat):FT:=(113,zP [(.sl .u8)] [(.int .i64),.bool] fun x=>kZ N x.1)::(zBJ N)
theorem zBA(N:Nat):AT (zBK N):=fnA zq (zBz N) (.two .auto (.two .auto (.two .auto (.two .auto (.two (.one (.by_ (zar N))) .auto))))) Tryz.func113 (.cons (zdG N) .nil)
def zaU(N:Nat):LF:=zp [(4,(.pair (.int .i64) (.sl .u8)))] ⟨(.isl .u8)::dr 3 ((.gs 0 1)::(.int .i64)::dr 71 []),[.seq (.pair (.int .i64) (.sl .u8)) 1 0 false]⟩ [(.ret,⟨.drop::.drop::(.gs 0 1)::(.int .i64)::dr 73 [],[.seq (.pair (.int .i64) (.sl .u8)) 1 0 false]⟩),(.exit 0,⟨dr 4 ((.gs 0 1)::dr 72 []),[.seq (.pair (.int .i64) (.sl .u8)) 1 0 false]⟩)] (lsT [(.l .u8),.i,(.l (.pair (.int .i64) (.sl .u8)))] (fun x=>qT N N x.1 x.2.1 x.2.2.1) fun R o κ=>(ze o (fun a22=>κ 0 [.i a22.1,.l (.pair (.int .i64) (.sl .u8)) a22.2]) (fun b23=>κ 1 [.l (.pair (.int .i64) (.sl .u8)) b23])))
theorem zdM(N:Nat):Lp Tryz.f72 [1,1,1,0,2] (zaU N):=zW zq (zBA N) .auto .nil [(.l .u8),.i,(.l (.pair (.int .i64) (.sl .u8)))] [[.i,(.l (.pair (.int .i64) (.sl .u8)))],[(.l (.pair (.int .i64) (.sl .u8)))]] (fun m x=>qT N m x.1 x.2.1 x.2.2.1) ⟨fun x=>(Sum.inl (x.1,x.2.1)),fun x=>(Sum.inr x.1),()⟩ N
def T72(N:Nat):FT:=(72,zP [(.sl .u8)] [(.sl (.pair (.int .i64) (.sl .u8))),(.int .i64)] fun x=>zad N x.1)::(zBK N)
theorem K72(N:Nat):AT (T72 N):=fnA zq (zBA N) (.two .auto (.two .auto (.two .auto (.two (.one (.by_ (zaU N))) .auto)))) Tryz.func72 (.cons (zdM N) .nil)
def zbT(N:Nat):LF:=zp [(4,(.pair (.int .i64) (.sl .u8)))] ⟨(.isl .u8)::dr 3 ((.gs 0 1)::dr 18 []),[.seq (.pair (.int .i64) (.sl .u8)) 1 0 false]⟩ [(.ret,⟨.drop::.drop::(.gs 0 1)::(.int .i64)::dr 19 [],[.seq (.pair (.int .i64) (.sl .u8)) 1 0 false]⟩)] (lsT [(.l .u8),(.l (.pair (.int .i64) (.sl .u8)))] (fun x=>jL N N x.1 x.2.1) fun R o κ=>κ 0 [.i o.1,.l (.pair (.int .i64) (.sl .u8)) o.2])
theorem zeP(N:Nat):Lp Tryz.f32 [1,1,2] (zbT N):=zW zq (K72 N) .auto .nil [(.l .u8),(.l (.pair (.int .i64) (.sl .u8)))] [[.i,(.l (.pair (.int .i64) (.sl .u8)))]] (fun m x=>jL N m x.1 x.2.1) ⟨fun x=>(x.1,x.2.1),()⟩ N
def T32(N:Nat):FT:=(32,zP [(.sl .u8)] [(.sl (.pair (.int .i64) (.sl .u8))),(.int .i64)] fun x=>zbp N x.1)::(T72 N)
theorem K32(N:Nat):AT (T32 N):=fnA zq (K72 N) (.two .auto (.two .auto (.one (.by_ (zbT N))))) Tryz.func32 (.cons (zeP N) .nil)
def zbH(N:Nat):LF:=zp [(6,uK2)] ⟨dr 6 ((.gs 0 1)::dr 11 ((.isl (.pair (.int .i64) (.sl .u8)))::(.int .i64)::(.int .i64)::dr 25 [])),[.seq uK2 1 0 false]⟩ [(.ret,⟨.drop::.drop::(.cst .qC)::(.cst (.bool false))::dr 42 [],[.seq uK2 1 0 false]⟩),(.exit 0,⟨dr 6 ((.gs 0 1)::dr 39 []),[.seq uK2 1 0 false]⟩)] (lsT [(.l (.pair (.int .i64) (.sl .u8))),.i,.i,(.l uK2)] (fun x=>jH N N x.1 x.2.1 x.2.2.1 x.2.2.2.1) fun R o κ=>(ze o (fun a22=>κ 0 [.l uK2 a22]) (fun b23=>κ 1 [.l uK2 b23])))
theorem zeK(N:Nat):Lp Tryz.f18 [1,1,1,1,0,1,2] (zbH N):=zW zq (K32 N) .auto .nil [(.l (.pair (.int .i64) (.sl .u8))),.i,.i,(.l uK2)] [[(.l uK2)],[(.l uK2)]] (fun m x=>jH N m x.1 x.2.1 x.2.2.1 x.2.2.2.1) ⟨fun x=>(Sum.inl x.1),fun x=>(Sum.inr x.1),()⟩ N
def T18(N:Nat):FT:=(18,zP [(.sl .u8)] [(.sl uK2),.bool] fun x=>zbn N x.1)::(T32 N)
theorem K18(N:Nat):AT (T18 N):=fnA zq (K32 N) (.two .auto (.two .auto (.two .auto (.two .auto (.two (.two .auto (.one (.by_ (zbH N)))) .auto))))) Tryz.func18 (.cons (zeK N) .nil)
def zcF(N:Nat):LF:=zp [] ⟨(.isl uK2)::(.isl uK2)::dr 3 ((.int .i64)::dr 21 []),[]⟩ [(.ret,⟨dr 4 ((.cst (.bool false))::dr 22 []),[]⟩),(.exit 0,⟨dr 27 [],[]⟩)] (lsT [(.l uK2),(.l uK2),.i] (fun x=>wH N N x.1 x.2.1 x.2.2.1) fun R o κ=>(ze o (fun a12=>κ 0 []) (fun b13=>κ 1 [])))
theorem zgl(N:Nat):Lp Tryz.f20 [1,1,0,1,2] (zcF N):=zW zq (K18 N) .auto .nil [(.l uK2),(.l uK2),.i] [[],[]] (fun m x=>wH N m x.1 x.2.1 x.2.2.1) ⟨fun _=>(Sum.inl ()),fun _=>(Sum.inr ()),()⟩ N
def T20(N:Nat):FT:=(20,zP [(.sl uK2),(.sl uK2)] [.bool] fun x=>zch N x.1 x.2.1)::(T18 N)
theorem K20(N:Nat):AT (T20 N):=fnA zq (K18 N) (.two .auto (.two .auto (.two (.two .auto (.one (.by_ (zcF N)))) .auto))) Tryz.func20 (.cons (zgl N) .nil)
def js(N:Nat):LF:=zp [] ⟨dr 4 ((.ptr 0 0 2)::(.fn 174 [] [(.ptr 0 0 2)])::dr 5 ((.isl .u8)::(.int .i64)::(.int .i64)::dr 21 [])),[.cells [(.ptr 0 0 2),(.gs 2 393217)] 0 (some 75),.gone,.seq .u8 393217 0 false]⟩ [(.ret,⟨.drop::.drop::(.cst (.str ([]:List UInt8)))::(.cst (.bool false))::dr 31 [],[.cells [(.ptr 0 0 2),(.gs 2 393217)] 0 (some 75),.gone,.seq .u8 393217 0 false]⟩),(.exit 0,⟨dr 4 ((.ptr 0 0 2)::(.fn 174 [] [(.ptr 0 0 2)])::dr 29 []),[.cells [(.ptr 0 0 2),(.gs 2 393217)] 0 (some 75),.gone,.seq .u8 393217 0 false]⟩)] (lsT [(.l .u8),.i,.i,(.l .u8)] (fun x=>qn N N x.1 x.2.1 x.2.2.1 x.2.2.2.1) fun R o κ=>(ze o (fun a21=>κ 0 [.l .u8 a21]) (fun b22=>κ 1 [.l .u8 b22])))
theorem xi(N:Nat):Lp Tryz.f147 [1,1,1,1,0,1,2] (js N):=zW zq (K20 N) .auto .nil [(.l .u8),.i,.i,(.l .u8)] [[(.l .u8)],[(.l .u8)]] (fun m x=>qn N m x.1 x.2.1 x.2.2.1 x.2.2.2.1) ⟨fun x=>(Sum.inl x.1),fun x=>(Sum.inr x.1),()⟩ N
def zyc(N:Nat):FT:=(147,zP [(.sl .u8)] [.str,.bool] fun x=>xy N x.1)::(T20 N)
theorem zAy(N:Nat):AT (zyc N):=fnA zq (K20 N) (.two .auto (.two .auto (.two .auto (.two .auto (.two (.two .auto (.one (.by_ (js N)))) .auto))))) Tryz.func147 (.cons (xi N) .nil)
def T55(N:Nat):FT:=(55,zP [(.sl .u8)] [(.sl .u8)] fun x=>jQ N x.1)::(zyc N)
theorem K55(N:Nat):AT (T55 N):=fnA zq (zAy N) .auto Tryz.func55 .nil
def T97(N:Nat):FT:=(97,zP [(.sl .u8)] [(.sl .u8)] fun x=>xR N x.1)::(T55 N)
theorem K97(N:Nat):AT (T97 N):=fnA zq (K55 N) .auto Tryz.func97 .nil
def qL(N:Nat):LF:=zp [] ⟨.drop::.str::(.ptr 0 0 1)::dr 4 ((.int .i64)::(.int .i64)::dr 10 []),[.cells [(.fn 96 [] [])] 0]⟩ [(.ret,⟨dr 4 ((.cst (.bool false))::dr 14 []),[.cells [(.fn 96 [] [])] 0]⟩),(.exit 0,⟨dr 19 [],[.cells [(.fn 96 [] [])] 0]⟩)] (lsT [.s,.i,.i] (fun x=>zZ N N x.1 x.2.1 x.2.2.1) fun R o κ=>(ze o (fun a15=>κ 0 []) (fun b16=>κ 1 [])))
theorem ky(N:Nat):Lp Tryz.f91 [1,0,1,2] (qL N):=zW zq (K97 N) .auto .nil [.s,.i,.i] [[],[]] (fun m x=>zZ N m x.1 x.2.1 x.2.2.1) ⟨fun _=>(Sum.inl ()),fun _=>(Sum.inr ()),()⟩ N
def T52(N:Nat):FT:=(52,zP [.str] [.str] fun x=>jZ N x.1)::(T97 N)
theorem K52(N:Nat):AT (T52 N):=fnA zq (K97 N) (.two .auto (.two (.two (.cal 1 47 (.two .auto (.two (.cal 6 91 (.two .auto (.two (.two .auto (.one (.by_ (qL N)))) .auto)) .auto) .auto)) .auto) .auto) .auto)) Tryz.func52 (.cons (ky N) .nil)
def wy(N:Nat):LF:=zp [(3,.str)] ⟨dr 3 ((.gs 0 1)::dr 3 ((.isl .u8)::(.int .i64)::(.int .i64)::dr 13 [])),[.seq .str 1 0 false]⟩ [(.exit 0,⟨dr 3 ((.gs 0 1)::dr 19 []),[.seq .str 1 0 false]⟩)] (lsT [(.l .u8),.i,.i,(.l .str)] (fun x=>wx N N x.1 x.2.1 x.2.2.1 x.2.2.2.1) fun R o κ=>κ 0 [.l .str o])
theorem zaw(N:Nat):Lp Tryz.f54 [1,1,0,1,2] (wy N):=zW zq (K52 N) .auto .nil [(.l .u8),.i,.i,(.l .str)] [[(.l .str)]] (fun m x=>wx N m x.1 x.2.1 x.2.2.1 x.2.2.2.1) ⟨fun x=>x.1,()⟩ N
def T54(N:Nat):FT:=(54,zP [.u8] [.str] fun x=>wU N x.1)::(T52 N)
theorem K54(N:Nat):AT (T54 N):=fnA zq (K52 N) (.two .auto (.two .auto (.two (.two .auto (.one (.by_ (wy N)))) .auto))) Tryz.func54 (.cons (zaw N) .nil)
def zx6(N:Nat):FT:=(101,zP [(.int .u32)] [.str] fun x=>k8 N x.1)::(T54 N)
theorem zxY(N:Nat):AT (zx6 N):=fnA zq (K54 N) .auto Tryz.func101 .nil
def ju(N:Nat):LF:=zp [(3,.str)] ⟨dr 3 ((.gs 0 1)::dr 3 ((.isl (.pair (.int .u32) (.int .u32)))::(.int .i64)::(.int .i64)::dr 26 [])),[.seq .str 1 0 false]⟩ [(.exit 0,⟨dr 3 ((.gs 0 1)::dr 32 []),[.seq .str 1 0 false]⟩)] (lsT [(.l (.pair (.int .u32) (.int .u32))),.i,.i,(.l .str)] (fun x=>qo N N x.1 x.2.1 x.2.2.1 x.2.2.2.1) fun R o κ=>κ 0 [.l .str o])
theorem xn(N:Nat):Lp Tryz.f57 [1,1,0,1,2] (ju N):=zW zq (zxY N) .auto .nil [(.l (.pair (.int .u32) (.int .u32))),.i,.i,(.l .str)] [[(.l .str)]] (fun m x=>qo N m x.1 x.2.1 x.2.2.1 x.2.2.2.1) ⟨fun x=>x.1,()⟩ N
def T57(N:Nat):FT:=(57,zP [(.sl (.pair (.int .u32) (.int .u32)))] [.str] fun x=>wm N x.1)::(zx6 N)
theorem K57(N:Nat):AT (T57 N):=fnA zq (zxY N) (.two .auto (.two .auto (.two (.two .auto (.one (.by_ (ju N)))) .auto))) Tryz.func57 (.cons (xn N) .nil)
def jo(N:Nat):LF:=zp [(3,.str)] ⟨(.int .i64)::.drop::.drop::(.gs 1 1)::dr 4 ((.gs 0 0)::(.cst (.int .i64 (5:Int)))::(.int .i64)::dr 21 []),[.seq .str 0 0 true,.seq .str 1 0 false]⟩ [(.exit 0,⟨dr 3 ((.gs 1 1)::dr 28 []),[.seq .str 0 0 true,.seq .str 1 0 false]⟩)] (lsT [.i,.i,(.l .str),(.l .str)] (fun x=>ji N N x.1 x.2.1 x.2.2.1 x.2.2.2.1) fun R o κ=>κ 0 [.l .str o.1,.l .str o.2])
theorem xg(N:Nat):Lp Tryz.f58 [1,1,0,1,2] (jo N):=zW zq (K57 N) .auto .nil [.i,.i,(.l .str),(.l .str)] [[(.l .str),(.l .str)]] (fun m x=>ji N m x.1 x.2.1 x.2.2.1 x.2.2.2.1) ⟨fun x=>(x.1,x.2.1),()⟩ N
def T58(N:Nat):FT:=(58,zP [(.int .i64)] [.str] fun x=>wi N x.1)::(T57 N)
theorem K58(N:Nat):AT (T58 N):=fnA zq (K57 N) (.two .auto (.two .auto (.two (.two .auto (.one (.by_ (jo N)))) .auto))) Tryz.func58 (.cons (xg N) .nil)
def T10(N:Nat):FT:=(10,zP [uK2] [(.sl .u8),.bool] fun x=>qD N x.1)::(T58 N)
theorem K10(N:Nat):AT (T10 N):=fnA zq (K58 N) .auto Tryz.func10 .nil
def zbL(N:Nat):LF:=zp [] ⟨.str::.drop::.drop::(.int .i64)::dr 13 [],[]⟩ [(.ret,⟨.drop::.drop::(.cst (.bool false))::dr 14 [],[]⟩),(.exit 0,⟨.str::dr 16 [],[]⟩)] (lsT [.s,.i] (fun x=>jI N N x.1 x.2.1) fun R o κ=>(ze o (fun a10=>κ 0 []) (fun b11=>κ 1 [.s b11])))
theorem zeL(N:Nat):Lp Tryz.f106 [1,0,1,2] (zbL N):=zW zq (K10 N) .auto .nil [.s,.i] [[],[.s]] (fun m x=>jI N m x.1 x.2.1) ⟨fun _=>(Sum.inl ()),fun x=>(Sum.inr x.1),()⟩ N
def zBD(N:Nat):FT:=(106,zP [.str] [.bool] fun x=>zcw N x.1)::(T10 N)
theorem zBv(N:Nat):AT (zBD N):=fnA zq (K10 N) (.two .auto (.two (.two .auto (.one (.by_ (zbL N)))) .auto)) Tryz.func106 (.cons (zeL N) .nil)
def zbR(N:Nat):LF:=zp [] ⟨(.isl .u8)::dr 3 (.str::(.int .i64)::dr 36 []),[]⟩ [(.ret,⟨.drop::.drop::(.cst (.str ([]:List UInt8)))::(.cst (.bool false))::dr 38 [],[]⟩),(.exit 0,⟨dr 4 (.str::dr 37 []),[]⟩)] (lsT [(.l .u8),.s,.i] (fun x=>jK N N x.1 x.2.1 x.2.2.1) fun R o κ=>(ze o (fun a11=>κ 0 []) (fun b12=>κ 1 [.s b12])))
theorem zeO(N:Nat):Lp Tryz.f154 [1,1,0,1,2] (zbR N):=zW zq (zBv N) .auto .nil [(.l .u8),.s,.i] [[],[.s]] (fun m x=>jK N m x.1 x.2.1 x.2.2.1) ⟨fun _=>(Sum.inl ()),fun x=>(Sum.inr x.1),()⟩ N
def zBM(N:Nat):FT:=(154,zP [(.sl .u8)] [.str,.bool] fun x=>zaH N x.1)::(zBD N)
theorem zB8(N:Nat):AT (zBM N):=fnA zq (zBv N) (.two .auto (.two .auto (.two (.two .auto (.one (.by_ (zbR N)))) .auto))) Tryz.func154 (.cons (zeO N) .nil)
def T68(N:Nat):FT:=(68,zP [(.sl .u8)] [(.sl .u8)] fun x=>wG N x.1)::(zBM N)
theorem K68(N:Nat):AT (T68 N):=fnA zq (zB8 N) .auto Tryz.func68 .nil
def zBE(N:Nat):FT:=(107,zP [(.sl .u8)] [(.sl .u8)] fun x=>zcg N x.1)::(T68 N)
theorem zB5(N:Nat):AT (zBE N):=fnA zq (K68 N) .auto Tryz.func107 .nil
def T66(N:Nat):FT:=(66,zP [.str] [.str] fun x=>kP N x.1)::(zBE N)
theorem K66(N:Nat):AT (T66 N):=fnA zq (zB5 N) .auto Tryz.func66 .nil
def zcf(N:Nat):LF:=zp [] ⟨(.int .i64)::.drop::.drop::.str::(.int .i64)::dr 19 [],[]⟩ [(.exit 0,⟨dr 3 (.str::dr 20 []),[]⟩)] (lsT [.i,.s,.i] (fun x=>xG N N x.1 x.2.1 x.2.2.1) fun R o κ=>κ 0 [.s o])
theorem zfm(N:Nat):Lp Tryz.f67 [1,1,0,1,2] (zcf N):=zW zq (K66 N) .auto .nil [.i,.s,.i] [[.s]] (fun m x=>xG N m x.1 x.2.1 x.2.2.1) ⟨fun x=>x.1,()⟩ N
def T67(N:Nat):FT:=(67,zP [(.int .i64)] [.str] fun x=>xU N x.1)::(T66 N)
theorem K67(N:Nat):AT (T67 N):=fnA zq (K66 N) (.two .auto (.two .auto (.two (.two .auto (.one (.by_ (zcf N)))) .auto))) Tryz.func67 (.cons (zfm N) .nil)
def zBH(N:Nat):FT:=(110,zP [(.int .u32)] [.str] fun x=>kO N x.1)::(T67 N)
theorem zBx(N:Nat):AT (zBH N):=fnA zq (K67 N) .auto Tryz.func110 .nil
def zbQ(N:Nat):LF:=zp [] ⟨(.isl (.pair (.int .u32) (.int .u32)))::.drop::.drop::.str::(.int .i64)::dr 39 [],[]⟩ [(.exit 0,⟨dr 3 (.str::dr 40 []),[]⟩)] (lsT [(.l (.pair (.int .u32) (.int .u32))),.s,.i] (fun x=>qj N N x.1 x.2.1 x.2.2.1) fun R o κ=>κ 0 [.s o])
theorem zeN(N:Nat):Lp Tryz.f69 [1,1,0,1,2] (zbQ N):=zW zq (zBx N) .auto .nil [(.l (.pair (.int .u32) (.int .u32))),.s,.i] [[.s]] (fun m x=>qj N m x.1 x.2.1 x.2.2.1) ⟨fun x=>x.1,()⟩ N
def T69(N:Nat):FT:=(69,zP [(.sl (.pair (.int .u32) (.int .u32)))] [.str] fun x=>zac N x.1)::(zBH N)
theorem K69(N:Nat):AT (T69 N):=fnA zq (zBx N) (.two .auto (.two .auto (.two (.two .auto (.one (.by_ (zbQ N)))) .auto))) Tryz.func69 (.cons (zeN N) .nil)
def zci(N:Nat):LF:=zp [] ⟨(.int .i64)::.drop::.drop::.str::(.int .i64)::dr 19 [],[]⟩ [(.exit 0,⟨dr 3 (.str::dr 20 []),[]⟩)] (lsT [.i,.s,.i] (fun x=>xI N N x.1 x.2.1 x.2.2.1) fun R o κ=>κ 0 [.s o])
theorem zfq(N:Nat):Lp Tryz.f70 [1,1,0,1,2] (zci N):=zW zq (K69 N) .auto .nil [.i,.s,.i] [[.s]] (fun m x=>xI N m x.1 x.2.1 x.2.2.1) ⟨fun x=>x.1,()⟩ N
def T70(N:Nat):FT:=(70,zP [(.int .i64)] [.str] fun x=>zag N x.1)::(T69 N)
theorem K70(N:Nat):AT (T70 N):=fnA zq (K69 N) (.two .auto (.two .auto (.two (.two .auto (.one (.by_ (zci N)))) .auto))) Tryz.func70 (.cons (zfq N) .nil)
def T71(N:Nat):FT:=(71,zP [(.int .i64),.bool] [.str] fun x=>zdP N x.1 x.2.1)::(T70 N)
theorem K71(N:Nat):AT (T71 N):=fnA zq (K70 N) .auto Tryz.func71 .nil
def T31(N:Nat):FT:=(31,zAe .u8 [uK2] [] fun x=>zcj N x.1)::(T71 N)
theorem K31(N:Nat):AT (T31 N):=fnO zq (K71 N) .auto Tryz.func31 .nil
def T11(N:Nat):FT:=(11,zP [uK2] [(.sl .u8),.bool] fun x=>wY N x.1)::(T31 N)
theorem K11(N:Nat):AT (T11 N):=fnA zq (K31 N) .auto Tryz.func11 .nil
def ki(N:Nat):LF:=zp [] ⟨(.isl .u8)::(.isl .u8)::dr 10 ((.int .i64)::(.int .i64)::dr 12 []),[]⟩ [(.ret,⟨dr 4 ((.cst (.bool false))::dr 21 []),[]⟩),(.exit 0,⟨dr 26 [],[]⟩)] (lsT [(.l .u8),(.l .u8),.i,.i] (fun x=>zR N N x.1 x.2.1 x.2.2.1 x.2.2.2.1) fun R o κ=>(ze o (fun a11=>κ 0 []) (fun b12=>κ 1 [])))
theorem za5(N:Nat):Lp Tryz.f12 [1,1,0,1,2] (ki N):=zW zq (K11 N) .auto .nil [(.l .u8),(.l .u8),.i,.i] [[],[]] (fun m x=>zR N m x.1 x.2.1 x.2.2.1 x.2.2.2.1) ⟨fun _=>(Sum.inl ()),fun _=>(Sum.inr ()),()⟩ N
def T12(N:Nat):FT:=(12,zP [(.sl .u8),(.sl .u8)] [.bool] fun x=>jl N x.1 x.2.1)::(T11 N)
theorem K12(N:Nat):AT (T12 N):=fnA zq (K11 N) (.two .auto (.two .auto (.two (.two .auto (.one (.by_ (ki N)))) .auto))) Tryz.func12 (.cons (za5 N) .nil)
def zaO(N:Nat):LF:=zp [(6597069766660,.u8)] ⟨dr 4 ((.gs 0 393217)::dr 4 ((.isl uK2)::(.int .i64)::(.int .i64)::dr 15 [])),[.seq .u8 393217 0 false]⟩ [(.ret,⟨.drop::.drop::(.cst .qC)::(.cst (.bool false))::dr 23 [],[.seq .u8 393217 0 false]⟩),(.exit 0,⟨dr 4 ((.gs 0 393217)::dr 22 []),[.seq .u8 393217 0 false]⟩)] (lsT [(.l uK2),.i,.i,(.l .u8)] (fun x=>qR N N x.1 x.2.1 x.2.2.1 x.2.2.2.1) fun R o κ=>(ze o (fun a21=>κ 0 [.l .u8 a21]) (fun b22=>κ 1 [.l .u8 b22])))
theorem zdK(N:Nat):Lp Tryz.f22 [1,1,0,1,2] (zaO N):=zW zq (K12 N) .auto .nil [(.l uK2),.i,.i,(.l .u8)] [[(.l .u8)],[(.l .u8)]] (fun m x=>qR N m x.1 x.2.1 x.2.2.1 x.2.2.2.1) ⟨fun x=>(Sum.inl x.1),fun x=>(Sum.inr x.1),()⟩ N
def T22(N:Nat):FT:=(22,zP [(.sl uK2)] [(.sl .u8),.bool] fun x=>xY N x.1)::(T12 N)
theorem K22(N:Nat):AT (T22 N):=fnA zq (K12 N) (.two .auto (.two .auto (.two (.two .auto (.one (.by_ (zaO N)))) .auto))) Tryz.func22 (.cons (zdK N) .nil)
def zdw(N:Nat):LF:=zp [] ⟨(.isl uK2)::.drop::.drop::(.int .i64)::dr 15 [],[]⟩ [(.ret,⟨.drop::.drop::(.cst (.bool false))::dr 16 [],[]⟩),(.exit 0,⟨(.isl uK2)::dr 18 [],[]⟩)] (lsT [(.l uK2),.i] (fun x=>wj N N x.1 x.2.1) fun R o κ=>(ze o (fun a10=>κ 0 []) (fun b11=>κ 1 [.l uK2 b11])))
theorem zho(N:Nat):Lp Tryz.f21 [1,0,1,2] (zdw N):=zW zq (K22 N) .auto .nil [(.l uK2),.i] [[],[(.l uK2)]] (fun m x=>wj N m x.1 x.2.1) ⟨fun _=>(Sum.inl ()),fun x=>(Sum.inr x.1),()⟩ N
def T21(N:Nat):FT:=(21,zP [(.sl uK2)] [.bool] fun x=>zda N x.1)::(T22 N)
theorem K21(N:Nat):AT (T21 N):=fnA zq (K22 N) (.two .auto (.two (.two .auto (.one (.by_ (zdw N)))) .auto)) Tryz.func21 (.cons (zho N) .nil)
def zbb(N:Nat):LF:=zp [(6597069766660,.u8)] ⟨(.isl uK2)::dr 3 ((.gs 0 393217)::(.int .i64)::dr 22 []),[.seq .u8 393217 0 false]⟩ [(.ret,⟨.drop::.drop::(.cst .qC)::(.cst (.bool false))::dr 24 [],[.seq .u8 393217 0 false]⟩),(.exit 0,⟨dr 4 ((.gs 0 393217)::dr 23 []),[.seq .u8 393217 0 false]⟩)] (lsT [(.l uK2),.i,(.l .u8)] (fun x=>jk N N x.1 x.2.1 x.2.2.1) fun R o κ=>(ze o (fun a17=>κ 0 [.l .u8 a17]) (fun b18=>κ 1 [.l .u8 b18])))
theorem zey(N:Nat):Lp Tryz.f23 [1,1,0,1,2] (zbb N):=zW zq (K21 N) .auto .nil [(.l uK2),.i,(.l .u8)] [[(.l .u8)],[(.l .u8)]] (fun m x=>jk N m x.1 x.2.1 x.2.2.1) ⟨fun x=>(Sum.inl x.1),fun x=>(Sum.inr x.1),()⟩ N
def T23(N:Nat):FT:=(23,zP [(.sl uK2)] [(.sl .u8),.bool] fun x=>zaI N x.1)::(T21 N)
theorem K23(N:Nat):AT (T23 N):=fnA zq (K21 N) (.two .auto (.two .auto (.two (.two .auto (.one (.by_ (zbb N)))) .auto))) Tryz.func23 (.cons (zey N) .nil)
def wz(N:Nat):FT:=(T23 N)
theorem zcE(N:Nat):zm9 Tryz.prog glA (zfj (wz N)) hkA:=ztX zq rfl (K23 N)
def wA(N:Nat):Pl:=.auto
theorem zc7(N:Nat)(x:El (zaE [(.sl uK2)])):zao Tryz.prog glA (zfj (wz N)) 1500 (wA N) 7 (jx [(.sl uK2)] x) [] (zdp [.bool])=qy N x.1:=by kernel_rfl
theorem zc6(N:Nat):∀ fn b,Tryz.prog.funcs[7]?=some fn->fn.body=some b->xx Tryz.prog glA hkA (wA N) b:=zfa Tryz.func7 (by kernel_rfl) .nil
end Go.Proofs.YtlfojfedfhpoiaaGreatDoor
