/- The functions of the law: their models, and that the program does what they say. -/
import Derived.Test.YtlfojfedfhpoiaaGreatDoorKrHp
import Derived.Test.YtlfojfedfhpoiaaGreatDoorB6
import Derived.Test.YtlfojfedfhpoiaaGreatDoorB5
set_option linter.unusedVariables false
set_option linter.unusedSimpArgs false
set_option maxRecDepth 100000
namespace Go.Proofs.YtlfojfedfhpoiaaGreatDoor
open Go.Proofs.Model Go Go.Gx Go.Mx Go.Sx
def hkA:jA:=qy (qy (qy (qy (qy (zof tab) 9 zsu) 28 zi3) 178 zfM) 188 (zhp 9)) 204 zin
theorem zT:zol Tryz.prog hkA [204,188,178,28,9]:=zeC (zeC (zeC (zeC (zeC (zrg (by kernel_rfl)) 9 zsu) 28 _) 178 _) 188 _) 204 _
abbrev AT(T:FT):Prop:=zjL Tryz.prog glA hkA T
abbrev Lp(fn:Func)(p:List Nat)(g:LF):Prop:=zjM Tryz.prog glA hkA (.loop (roundOf fn p)) g
def T0:FT:=[(9,qE [] [.bool] fun _=>some (true,())),(28,ztY),(178,zo7),(188,zqx),(204,zpN),(114,zuD),(116,zmJ),(219,zmJ),(234,zoJ)]
theorem K0:zjL Tryz.prog glA hkA T0:=⟨zqU rfl,zlL rfl,zkg rfl,zk4 rfl,zkQ rfl,zmb rfl,zfI rfl,zfI rfl,zj2 rfl,trivial⟩
def T78(N:Nat):FT:=(78,qE [(.sl .u8),.u8] [(.int .i64)] fun x=>js N x.1 x.2.1)::T0
theorem K78(N:Nat):AT (T78 N):=fnA zT K0 .auto Tryz.func78 .nil
def T92(N:Nat):FT:=(92,qE [.u8] [.bool] fun x=>zb5 N x.1)::(T78 N)
theorem K92(N:Nat):AT (T92 N):=fnA zT (K78 N) .auto Tryz.func92 .nil
def T48(N:Nat):FT:=(48,qE [.u8] [.bool] fun x=>zdc N x.1)::(T92 N)
theorem K48(N:Nat):AT (T48 N):=fnA zT (K92 N) .auto Tryz.func48 .nil
def zbF(N:Nat):LF:=zK [] ⟨.drop::.str::(.ptr 0 0 1)::dr 4 ((.int .i64)::(.int .i64)::dr 10 []),[.cells [(.fn 48 [] [])] 0]⟩ [(.ret,⟨dr 4 ((.cst (.bool false))::dr 14 []),[.cells [(.fn 48 [] [])] 0]⟩),(.exit 0,⟨dr 19 [],[.cells [(.fn 48 [] [])] 0]⟩)] (lsT [.s,.i,.i] (fun x=>jw N N x.1 x.2.1 x.2.2.1) fun R o κ=>(zi o (fun a16=>κ 0 []) (fun b17=>κ 1 [])))
theorem zfb(N:Nat):Lp Tryz.f91 [1,0,1,2] (zbF N):=qW zT (K48 N) .auto .nil [.s,.i,.i] [[],[]] (fun m x=>jw N m x.1 x.2.1 x.2.2.1) ⟨fun _=>(Sum.inl ()),fun _=>(Sum.inr ()),()⟩ N
def T39(N:Nat):FT:=(39,qE [(.sl .u8)] [.str,(.int .i64),.bool] fun x=>zb8 N x.1)::(T48 N)
theorem K39(N:Nat):AT (T39 N):=fnA zT (K48 N) (.two .auto (.two .auto (.two (.two (.cal 7 47 (.two .auto (.two (.cal 6 91 (.two .auto (.two (.two .auto (.one (.by_ (zbF N)))) .auto)) .auto) .auto)) .auto) .auto) .auto))) Tryz.func39 (.cons (zfb N) .nil)
def zyx(N:Nat):FT:=(176,qE [.u8] [.bool] fun x=>kQ N x.1)::(T39 N)
theorem zxN(N:Nat):AT (zyx N):=fnA zT (K39 N) .auto Tryz.func176 .nil
def wW(N:Nat):LF:=zK [(6597069832194,.u8)] ⟨(.ptr 0 0 3)::dr 55 [],[.cells [(.isl .u8),(.int .i64),(.gs 1 393217)] 0,.seq .u8 393217 0 false]⟩ [(.ret,⟨.drop::.drop::.bool::dr 53 [],[.cells [(.isl .u8),(.int .i64),(.gs 1 393217)] 0,.seq .u8 393217 0 false]⟩)] (lsT [(.l .u8),.i,(.l .u8)] (fun x=>zW N N x.1 x.2.1 x.2.2.1) fun R o κ=>κ 0 [.b o.1,.l .u8 o.2.1,.i o.2.2.1,.l .u8 o.2.2.2])
theorem zby(N:Nat):Lp Tryz.f185 [1,1,2] (wW N):=qW zT (zxN N) .auto .nil [(.l .u8),.i,(.l .u8)] [[.b,(.l .u8),.i,(.l .u8)]] (fun m x=>zW N m x.1 x.2.1 x.2.2.1) ⟨fun x=>(x.1,x.2.1,x.2.2.1,x.2.2.2.1),()⟩ N
def zyj(N:Nat):FT:=(158,qE [(.sl .u8),(.int .i64)] [(.sl .u8),(.int .i64),.bool] fun x=>jY N x.1 x.2.1)::(zyx N)
theorem zze(N:Nat):AT (zyj N):=fnA zT (zxN N) (.two .auto (.two (.cal 2 184 (.two .auto (.two .auto (.two (.two (.cal 2 185 (.two .auto (.two .auto (.one (.by_ (wW N))))) .auto) .auto) .auto))) .auto) .auto)) Tryz.func158 (.cons (zby N) .nil)
def zyH(N:Nat):FT:=(194,qE [(.int .i64)] [.str] fun x=>kA N x.1)::(zyj N)
theorem zzs(N:Nat):AT (zyH N):=fnA zT (zze N) .auto Tryz.func194 .nil
def zyP(N:Nat):FT:=(212,qE [(.int .u64)] [(.int .i64)] fun x=>wj N x.1)::(zyH N)
theorem zzz(N:Nat):AT (zyP N):=fnA zT (zzs N) .auto Tryz.func212 .nil
def zyO(N:Nat):FT:=(211,qE [(.int .i64)] [(.int .i64)] fun x=>wQ N x.1)::(zyP N)
theorem zzy(N:Nat):AT (zyO N):=fnA zT (zzz N) .auto Tryz.func211 .nil
def zyQ(N:Nat):FT:=(213,qE [.bool] [(.int .i64)] fun x=>wO N x.1)::(zyO N)
theorem zzA(N:Nat):AT (zyQ N):=fnA zT (zzy N) .auto Tryz.func213 .nil
def zyI(N:Nat):FT:=(195,qE [(.int .u64)] [(.int .i64)] fun x=>zv N x.1)::(zyQ N)
theorem zxR(N:Nat):AT (zyI N):=fnA zT (zzA N) .auto Tryz.func195 .nil
def zar(N:Nat):LF:=zK [] ⟨(.sl 0 0 false)::(.int .u64)::.drop::.drop::(.int .i64)::dr 162 [],[.seq .u8 0 0 true]⟩ [(.exit 0,⟨(.sl 0 0 false)::(.int .u64)::.drop::.drop::(.int .i64)::dr 162 [],[.seq .u8 0 0 true]⟩)] (lsT [.n,.n,.i,.i,(.l .u8)] (fun x=>zd N N x.1 x.2.1 x.2.2.1 x.2.2.2.1 x.2.2.2.2.1) fun R o κ=>κ 0 [.n o.1,.n o.2.1,.i o.2.2.1,.i o.2.2.2.1,.l .u8 o.2.2.2.2])
theorem zdE(N:Nat):Lp Tryz.f196 [1,0,2] (zar N):=qW zT (zxR N) .auto .nil [.n,.n,.i,.i,(.l .u8)] [[.n,.n,.i,.i,(.l .u8)]] (fun m x=>zd N m x.1 x.2.1 x.2.2.1 x.2.2.2.1 x.2.2.2.2.1) ⟨fun x=>(x.1,x.2.1,x.2.2.1,x.2.2.2.1,x.2.2.2.2.1),()⟩ N
def zxS(N:Nat):FT:=(100,qE [(.int .u32)] [.str] fun x=>zq N x.1)::(zyI N)
theorem zy0(N:Nat):AT (zxS N):=fnA zT (zxR N) (.two .auto (.two (.cal 2 148 (.two .auto (.two (.cal 2 177 (.two .auto (.two (.two .auto (.two (.two .auto (.two .auto (.two .auto (.two (.cal 3 196 (.two .auto (.two (.one (.by_ (zar N))) .auto)) .auto) .auto)))) .auto)) .auto)) .auto) .auto)) .auto) .auto)) Tryz.func100 (.cons (zdE N) .nil)
def zyA(N:Nat):FT:=(181,qE [.str] [(.int .u32),.bool] fun x=>wi N x.1)::(zxS N)
theorem zzn(N:Nat):AT (zyA N):=fnA zT (zy0 N) .auto Tryz.func181 .nil
def zyB(N:Nat):FT:=(182,qE [(.sl .u8)] [(.sl .u8)] fun x=>zO N x.1)::(zyA N)
theorem zzo(N:Nat):AT (zyB N):=zzV zT (zzn N) .auto Tryz.func182 .nil
def zyk(N:Nat):FT:=(159,qE [(.sl .u8),(.int .i64)] [(.sl .u8),(.int .i64),.bool] fun x=>qM N x.1 x.2.1)::(zyB N)
theorem zzf(N:Nat):AT (zyk N):=fnA zT (zzo N) .auto Tryz.func159 .nil
def zyM(N:Nat):FT:=(207,qE [.str,.u8] [(.int .i64)] fun x=>qx N x.1 x.2.1)::(zyk N)
theorem zzw(N:Nat):AT (zyM N):=fnA zT (zzf N) .auto Tryz.func207 .nil
def zyD(N:Nat):FT:=(187,qE [.str,.u8] [(.int .i64)] fun x=>zaG N x.1 x.2.1)::(zyM N)
theorem zzp(N:Nat):AT (zyD N):=fnA zT (zzw N) .auto Tryz.func187 .nil
def zyl(N:Nat):FT:=(160,qE [.u8] [.bool] fun x=>k9 N x.1)::(zyD N)
theorem zwW(N:Nat):AT (zyl N):=fnA zT (zzp N) .auto Tryz.func160 .nil
def xT(N:Nat):LF:=zK [] ⟨(.ptr 0 0 2)::.drop::(.ptr 4 0 3)::.drop::(.int .i64)::dr 52 [],[.cells [(.isl .u8),(.int .i64)] 0,.gone,.gone,.gone,.gone]⟩ [(.exit 0,⟨(.ptr 0 0 2)::.drop::(.ptr 4 0 3)::.drop::(.int .i64)::dr 52 [],[.cells [(.isl .u8),(.int .i64)] 0,.gone,.gone,.gone,.gone]⟩)] (lsT [.i,(.l .u8),.i] (fun x=>qq N N x.1 x.2.1 x.2.2.1) fun R o κ=>κ 0 [.i o.1,.l .u8 o.2.1,.i o.2.2])
def xR(N:Nat):LF:=zK [(4,uK1)] ⟨dr 4 ((.gs 1 1)::(.ptr 0 0 2)::dr 26 []),[.cells [(.isl .u8),(.int .i64)] 0,.seq uK1 1 0 false]⟩ [(.ret,⟨.drop::.drop::(.gs 1 1)::(.cst (.int .i64 (-1:Int)))::dr 28 [],[.cells [(.isl .u8),(.int .i64)] 0,.seq uK1 1 0 false]⟩),(.ret,⟨.drop::.drop::(.cst .qB)::(.int .i64)::dr 28 [],[.cells [(.isl .u8),(.int .i64)] 0,.seq uK1 1 0 false]⟩)] (lsT [(.l .u8),.i,(.l uK1)] (fun x=>zL N N x.1 x.2.1 x.2.2.1) fun R o κ=>(zi o (fun a90=>κ 0 [.l .u8 a90.1,.i a90.2.1,.l uK1 a90.2.2]) (fun b91=>κ 1 [.i b91.1,.l .u8 b91.2.1,.i b91.2.2.1,.l uK1 b91.2.2.2])))
theorem zdv(N:Nat):Lp Tryz.f122 [1,1,0,2] (xT N):=qW zT (zwW N) .auto .nil [.i,(.l .u8),.i] [[.i,(.l .u8),.i]] (fun m x=>qq N m x.1 x.2.1 x.2.2.1) ⟨fun x=>(x.1,x.2.1,x.2.2.1),()⟩ N
theorem zdu(N:Nat):Lp Tryz.f42 [1,1,1,2] (xR N):=qW zT (zwW N) (.one (.two .auto (.two (.cal 1 79 (.two .auto (.two .auto (.two .auto (.two .auto (.two .auto (.two (.cal 1 122 (.two .auto (.two .auto (.two (.one (.by_ (xT N))) .auto))) .auto) .auto)))))) .auto) .auto))) (.cons (zdv N) .nil) [(.l .u8),.i,(.l uK1)] [[(.l .u8),.i,(.l uK1)],[.i,(.l .u8),.i,(.l uK1)]] (fun m x=>zL N m x.1 x.2.1 x.2.2.1) ⟨fun x=>(Sum.inl (x.1,x.2.1,x.2.2.1)),fun x=>(Sum.inr (x.1,x.2.1,x.2.2.1,x.2.2.2.1)),()⟩ N
def T42(N:Nat):FT:=(42,qE [(.sl .u8)] [(.sl uK1),(.int .i64)] fun x=>k8 N x.1)::(zyl N)
theorem K42(N:Nat):AT (T42 N):=fnA zT (zwW N) (.two .auto (.two .auto (.two .auto (.one (.by_ (xR N)))))) Tryz.func42 (.cons (zdu N) .nil)
def j6(N:Nat):LF:=zK [] ⟨(.isl (.int .i64))::(.int .i64)::dr 5 ((.int .i64)::(.int .i64)::dr 10 []),[]⟩ [(.ret,⟨dr 4 ((.int .i64)::dr 14 []),[]⟩),(.exit 0,⟨dr 19 [],[]⟩)] (lsT [(.l (.int .i64)),.i,.i,.i] (fun x=>zI N N x.1 x.2.1 x.2.2.1 x.2.2.2.1) fun R o κ=>(zi o (fun a11=>κ 0 [.i a11]) (fun b12=>κ 1 [])))
theorem zaE(N:Nat):Lp Tryz.f125 [1,0,1,2] (j6 N):=qW zT (K42 N) .auto .nil [(.l (.int .i64)),.i,.i,.i] [[.i],[]] (fun m x=>zI N m x.1 x.2.1 x.2.2.1 x.2.2.2.1) ⟨fun x=>(Sum.inl x.1),fun _=>(Sum.inr ()),()⟩ N
def zx1(N:Nat):FT:=(125,qE [(.sl (.int .i64)),(.int .i64)] [(.int .i64)] fun x=>qU N x.1 x.2.1)::(T42 N)
theorem zy2(N:Nat):AT (zx1 N):=fnA zT (K42 N) (.two .auto (.two (.two .auto (.one (.by_ (j6 N)))) .auto)) Tryz.func125 (.cons (zaE N) .nil)
def T82(N:Nat):FT:=(82,qE [(.sl (.int .i64)),(.int .i64)] [.bool] fun x=>za N x.1 x.2.1)::(zx1 N)
theorem K82(N:Nat):AT (T82 N):=fnA zT (zy2 N) .auto Tryz.func82 .nil
def zbw(N:Nat):LF:=zK [] ⟨(.fn 124 [] [])::(.ptr 1 0 1)::dr 3 ((.gs 0 0)::(.int .i64)::(.int .i64)::dr 11 []),[.seq .u8 0 0 true,.cells [(.gs 0 0)] 0]⟩ [(.exit 0,⟨dr 19 [],[.seq .u8 0 0 true,.cells [(.gs 0 0)] 0]⟩)] (lsT [.i,.i,(.l .u8)] (fun x=>jt N N x.1 x.2.1 x.2.2.1) fun R o κ=>κ 0 [.l .u8 o])
theorem ze8(N:Nat):Lp Tryz.f123 [1,2] (zbw N):=qW zT (K82 N) .auto .nil [.i,.i,(.l .u8)] [[(.l .u8)]] (fun m x=>jt N m x.1 x.2.1 x.2.2.1) ⟨fun x=>x.1,()⟩ N
def T81(N:Nat):FT:=(81,qE [.str] [.str] fun x=>jB N x.1)::(T82 N)
theorem K81(N:Nat):AT (T81 N):=fnA zT (K82 N) (.two .auto (.two .auto (.two .auto (.two (.cal 1 123 (.two .auto (.one (.by_ (zbw N)))) .auto) .auto)))) Tryz.func81 (.cons (ze8 N) .nil)
def jm(N:Nat):LF:=zK [] ⟨(.isl .str)::.str::dr 5 ((.int .i64)::(.int .i64)::dr 10 []),[]⟩ [(.ret,⟨dr 4 ((.int .i64)::dr 14 []),[]⟩),(.exit 0,⟨dr 19 [],[]⟩)] (lsT [(.l .str),.s,.i,.i] (fun x=>zl N N x.1 x.2.1 x.2.2.1 x.2.2.2.1) fun R o κ=>(zi o (fun a11=>κ 0 [.i a11]) (fun b12=>κ 1 [])))
theorem ky(N:Nat):Lp Tryz.f80 [1,0,1,2] (jm N):=qW zT (K81 N) .auto .nil [(.l .str),.s,.i,.i] [[.i],[]] (fun m x=>zl N m x.1 x.2.1 x.2.2.1 x.2.2.2.1) ⟨fun x=>(Sum.inl x.1),fun _=>(Sum.inr ()),()⟩ N
def T80(N:Nat):FT:=(80,qE [(.sl .str),.str] [(.int .i64)] fun x=>zp N x.1 x.2.1)::(T81 N)
theorem K80(N:Nat):AT (T80 N):=fnA zT (K81 N) (.two .auto (.two (.two .auto (.one (.by_ (jm N)))) .auto)) Tryz.func80 (.cons (ky N) .nil)
def T43(N:Nat):FT:=(43,qE [.str] [(.int .i64),.bool] fun x=>wC N x.1)::(T80 N)
theorem K43(N:Nat):AT (T43 N):=fnA zT (K80 N) .auto Tryz.func43 .nil
def T96(N:Nat):FT:=(96,qE [.u8] [.bool] fun x=>zb4 N x.1)::(T43 N)
theorem K96(N:Nat):AT (T96 N):=fnA zT (K43 N) .auto Tryz.func96 .nil
def zx2(N:Nat):FT:=(128,qE [.u8] [.bool] fun x=>zS N x.1)::(T96 N)
theorem zy3(N:Nat):AT (zx2 N):=fnA zT (K96 N) .auto Tryz.func128 .nil
def T75(N:Nat):FT:=(75,qE [.str,.str] [.bool] fun x=>jH N x.1 x.2.1)::(zx2 N)
theorem K75(N:Nat):AT (T75 N):=fnA zT (zy3 N) .auto Tryz.func75 .nil
def zyN(N:Nat):FT:=(210,qE [.str,.str] [.str,.bool] fun x=>jG N x.1 x.2.1)::(T75 N)
theorem zzx(N:Nat):AT (zyN N):=fnA zT (K75 N) .auto Tryz.func210 .nil
def zyG(N:Nat):FT:=(192,qE [.str,.str] [.str,.bool] fun x=>jF N x.1 x.2.1)::(zyN N)
theorem zzr(N:Nat):AT (zyG N):=fnA zT (zzx N) .auto Tryz.func192 .nil
def zyF(N:Nat):FT:=(191,qE [.str,.str] [.bool] fun x=>qw N x.1 x.2.1)::(zyG N)
theorem zzq(N:Nat):AT (zyF N):=fnA zT (zzr N) .auto Tryz.func191 .nil
def zyn(N:Nat):FT:=(162,qE [.str,.str] [.str,.bool] fun x=>qv N x.1 x.2.1)::(zyF N)
theorem zzh(N:Nat):AT (zyn N):=fnA zT (zzq N) .auto Tryz.func162 .nil
def zx3(N:Nat):FT:=(133,qE [.str,.str] [.str,.bool] fun x=>z7 N x.1 x.2.1)::(zyn N)
theorem zxC(N:Nat):AT (zx3 N):=fnA zT (zzh N) .auto Tryz.func133 .nil
def zcr(N:Nat):LF:=zK [(26388279066627,.u8)] ⟨.u8::.drop::.drop::(.gs 0 1572865)::.drop::.drop::(.int .i64)::dr 14 [],[.seq .u8 1572865 0 false]⟩ [(.exit 0,⟨dr 3 ((.gs 0 1572865)::dr 17 []),[.seq .u8 1572865 0 false]⟩)] (lsT [.c,.i,(.l .u8)] (fun x=>kW N N x.1 x.2.1 x.2.2.1) fun R o κ=>κ 0 [.l .u8 o])
theorem zf6(N:Nat):Lp Tryz.f98 [1,1,0,1,2] (zcr N):=qW zT (zxC N) .auto .nil [.c,.i,(.l .u8)] [[(.l .u8)]] (fun m x=>kW N m x.1 x.2.1 x.2.2.1) ⟨fun x=>x.1,()⟩ N
def T98(N:Nat):FT:=(98,qE [.u8] [(.sl .u8)] fun x=>zdG N x.1)::(zx3 N)
theorem K98(N:Nat):AT (T98 N):=fnA zT (zxC N) (.two .auto (.two .auto (.two (.two .auto (.one (.by_ (zcr N)))) .auto))) Tryz.func98 (.cons (zf6 N) .nil)
def zcs(N:Nat):LF:=zK [] ⟨.u8::dr 4 ((.gs 0 0)::(.cst (.int .i64 (5:Int)))::(.int .i64)::dr 10 []),[.seq .str 0 0 true]⟩ [(.ret,⟨.drop::.drop::.str::dr 15 [],[.seq .str 0 0 true]⟩),(.exit 0,⟨dr 18 [],[.seq .str 0 0 true]⟩)] (lsT [.c,.i,(.l .str)] (fun x=>kX N N x.1 x.2.1 x.2.2.1) fun R o κ=>(zi o (fun a9=>κ 0 [.s a9.1,.l .str a9.2]) (fun b10=>κ 1 [.l .str b10])))
theorem zf8(N:Nat):Lp Tryz.f99 [1,0,1,2] (zcs N):=qW zT (K98 N) .auto .nil [.c,.i,(.l .str)] [[.s,(.l .str)],[(.l .str)]] (fun m x=>kX N m x.1 x.2.1 x.2.2.1) ⟨fun x=>(Sum.inl (x.1,x.2.1)),fun x=>(Sum.inr x.1),()⟩ N
def T99(N:Nat):FT:=(99,qE [.u8] [.str] fun x=>zgD N x.1)::(T98 N)
theorem K99(N:Nat):AT (T99 N):=fnA zT (K98 N) (.two .auto (.two (.two .auto (.one (.by_ (zcs N)))) .auto)) Tryz.func99 (.cons (zf8 N) .nil)
def zaY(N:Nat):LF:=zK [] ⟨.drop::(.map 0)::dr 3 ((.isl .u8)::(.int .i64)::(.int .i64)::dr 10 []),[.kv .str .u8 0]⟩ [(.exit 0,⟨.drop::(.map 0)::dr 16 [],[.kv .str .u8 0]⟩)] (lsT [(.l .u8),.i,.i,(.l (.pair .str .u8))] (fun x=>jK N N x.1 x.2.1 x.2.2.1 x.2.2.2.1) fun R o κ=>κ 0 [.l (.pair .str .u8) o])
def zaZ(N:Nat):LF:=zK [] ⟨dr 7 (.u8::(.map 0)::dr 24 ((.gs 1 0)::(.int .i64)::(.int .i64)::dr 17 [])),[.kv .str .u8 0,.seq .str 0 0 true]⟩ [(.ret,⟨.drop::.drop::.u8::(.cst (.bool false))::dr 49 [],[.kv .str .u8 0,.seq .str 0 0 true]⟩),(.exit 0,⟨dr 7 (.u8::dr 45 []),[.kv .str .u8 0,.seq .str 0 0 true]⟩)] (lsT [.c,.i,.i,(.l (.pair .str .u8)),(.l .str)] (fun x=>jc N N x.1 x.2.1 x.2.2.1 x.2.2.2.1 x.2.2.2.2.1) fun R o κ=>(zi o (fun a50=>κ 0 [.c a50.1,.l (.pair .str .u8) a50.2.1,.l .str a50.2.2]) (fun b51=>κ 1 [.c b51.1,.l (.pair .str .u8) b51.2.1,.l .str b51.2.2])))
theorem zea(N:Nat):Lp Tryz.f193 [1,1,0,1,2] (zaY N):=qW zT (K99 N) .auto .nil [(.l .u8),.i,.i,(.l (.pair .str .u8))] [[(.l (.pair .str .u8))]] (fun m x=>jK N m x.1 x.2.1 x.2.2.1 x.2.2.2.1) ⟨fun x=>x.1,()⟩ N
theorem zec(N:Nat):Lp Tryz.f163 [1,1,1,1,1,1,1,0,1,2] (zaZ N):=qW zT (K99 N) .auto .nil [.c,.i,.i,(.l (.pair .str .u8)),(.l .str)] [[.c,(.l (.pair .str .u8)),(.l .str)],[.c,(.l (.pair .str .u8)),(.l .str)]] (fun m x=>jc N m x.1 x.2.1 x.2.2.1 x.2.2.2.1 x.2.2.2.2.1) ⟨fun x=>(Sum.inl (x.1,x.2.1,x.2.2.1)),fun x=>(Sum.inr (x.1,x.2.1,x.2.2.1)),()⟩ N
def zyo(N:Nat):FT:=(163,qE [.str] [.u8,.bool] fun x=>j4 N x.1)::(T99 N)
theorem zzi(N:Nat):AT (zyo N):=fnA zT (K99 N) (.two .auto (.two .auto (.two .auto (.two .auto (.two .auto (.two .auto (.two (.cal 0 193 (.two .auto (.two .auto (.two (.two .auto (.one (.by_ (zaY N)))) .auto))) .auto) (.two (.two .auto (.one (.by_ (zaZ N)))) .auto)))))))) Tryz.func163 (.cons (zea N) (.cons (zec N) .nil))
def zyE(N:Nat):FT:=(190,qE [.str] [(.int .u32),.bool] fun x=>qe N x.1)::(zyo N)
theorem zxQ(N:Nat):AT (zyE N):=fnA zT (zzi N) .auto Tryz.func190 .nil
def xP(N:Nat):LF:=zK [(4,(.pair (.int .u32) (.int .u32)))] ⟨dr 4 ((.gs 1 1)::dr 10 ((.gs 0 0)::(.int .i64)::(.int .i64)::dr 36 [])),[.seq .str 0 0 true,.seq (.pair (.int .u32) (.int .u32)) 1 0 false]⟩ [(.ret,⟨.drop::.drop::(.cst .qB)::(.cst (.bool false))::dr 50 [],[.seq .str 0 0 true,.seq (.pair (.int .u32) (.int .u32)) 1 0 false]⟩),(.exit 0,⟨dr 4 ((.gs 1 1)::dr 49 []),[.seq .str 0 0 true,.seq (.pair (.int .u32) (.int .u32)) 1 0 false]⟩)] (lsT [.i,.i,(.l .str),(.l (.pair (.int .u32) (.int .u32)))] (fun x=>zD N N x.1 x.2.1 x.2.2.1 x.2.2.2.1) fun R o κ=>(zi o (fun a51=>κ 0 [.l .str a51.1,.l (.pair (.int .u32) (.int .u32)) a51.2]) (fun b52=>κ 1 [.l .str b52.1,.l (.pair (.int .u32) (.int .u32)) b52.2])))
theorem zdt(N:Nat):Lp Tryz.f161 [1,1,0,1,2] (xP N):=qW zT (zxQ N) .auto .nil [.i,.i,(.l .str),(.l (.pair (.int .u32) (.int .u32)))] [[(.l .str),(.l (.pair (.int .u32) (.int .u32)))],[(.l .str),(.l (.pair (.int .u32) (.int .u32)))]] (fun m x=>zD N m x.1 x.2.1 x.2.2.1 x.2.2.2.1) ⟨fun x=>(Sum.inl (x.1,x.2.1)),fun x=>(Sum.inr (x.1,x.2.1)),()⟩ N
def zym(N:Nat):FT:=(161,qE [.str] [(.sl (.pair (.int .u32) (.int .u32))),.bool] fun x=>jT N x.1)::(zyE N)
theorem zzg(N:Nat):AT (zym N):=fnA zT (zxQ N) (.two .auto (.two .auto (.two (.two .auto (.one (.by_ (xP N)))) .auto))) Tryz.func161 (.cons (zdt N) .nil)
def zxT(N:Nat):FT:=(102,qE [.str] [(.int .i64),.bool] fun x=>jP N x.1)::(zym N)
theorem zsy(N:Nat):AT (zxT N):=fnA zT (zzg N) .auto Tryz.func102 .nil
def xj(N:Nat):LF:=zK [] ⟨.drop::.str::(.ptr 11 0 1)::dr 4 ((.int .i64)::(.int .i64)::dr 10 []),[.gone,.gone,.gone,.gone,.gone,.gone,.gone,.gone,.gone,.gone,.gone,.cells [(.fn 128 [] [])] 0]⟩ [(.ret,⟨dr 4 ((.cst (.bool false))::dr 14 []),[.gone,.gone,.gone,.gone,.gone,.gone,.gone,.gone,.gone,.gone,.gone,.cells [(.fn 128 [] [])] 0]⟩),(.exit 0,⟨dr 19 [],[.gone,.gone,.gone,.gone,.gone,.gone,.gone,.gone,.gone,.gone,.gone,.cells [(.fn 128 [] [])] 0]⟩)] (lsT [.s,.i,.i] (fun x=>qh N N x.1 x.2.1 x.2.2.1) fun R o κ=>(zi o (fun a26=>κ 0 []) (fun b27=>κ 1 [])))
def xo(N:Nat):LF:=zK [] ⟨(.ptr 3 0 10)::(.cst (.int .i64 (3:Int)))::(.fn 134 [(.ptr 3 0 10)] [])::dr 14 [],[.gone,.gone,.gone,.cells [(.isl uK1),.str,(.int .i64),.str,(.cst .qB),(.cst (.int .i64 (0:Int))),(.cst (.int .i64 (0:Int))),(.cst (.bool false)),.u8,(.cst .qB)] 0,.gone,.gone,.gone,.gone,.gone,.gone,.gone,.gone,.gone,.gone,.gone]⟩ [(.panic (.ifc 86 (.agg [])),⟨dr 17 [],[.gone,.gone,.gone,.cells [(.isl uK1),.str,(.int .i64),.str,(.cst .qB),(.cst (.int .i64 (0:Int))),(.cst (.int .i64 (0:Int))),(.cst (.bool false)),.u8,(.cst .qB)] 0,.gone,.gone,.gone,.gone,.gone,.gone,.gone,.gone,.gone,.gone,.gone]⟩),(.ret,⟨dr 17 [],[.gone,.gone,.gone,.cells [(.isl uK1),.str,(.int .i64),.str,(.cst .qB),(.cst (.int .i64 (0:Int))),(.cst (.int .i64 (0:Int))),(.cst (.bool false)),.u8,(.cst .qB)] 0,.gone,.gone,.gone,.gone,.gone,.gone,.gone,.gone,.gone,.gone,.gone]⟩)] (lsT [(.l uK1),.s,.i,.s,.c] (fun x=>zA N N x.1 x.2.1 x.2.2.1 x.2.2.2.1 x.2.2.2.2.1) fun R o κ=>(zi o (fun a54=>κ 0 [.l uK1 a54.1,.s a54.2.1,.i a54.2.2.1,.s a54.2.2.2.1,.c a54.2.2.2.2]) (fun b55=>κ 1 [.l uK1 b55.1,.s b55.2.1,.i b55.2.2.1,.s b55.2.2.2.1,.c b55.2.2.2.2])))
def xq(N:Nat):LF:=zK [] ⟨.drop::.str::(.ptr 11 0 1)::dr 4 ((.int .i64)::(.int .i64)::dr 10 []),[.gone,.gone,.gone,.gone,.gone,.gone,.gone,.gone,.gone,.gone,.gone,.cells [(.fn 128 [] [])] 0]⟩ [(.ret,⟨dr 4 ((.cst (.bool false))::dr 14 []),[.gone,.gone,.gone,.gone,.gone,.gone,.gone,.gone,.gone,.gone,.gone,.cells [(.fn 128 [] [])] 0]⟩),(.exit 0,⟨dr 19 [],[.gone,.gone,.gone,.gone,.gone,.gone,.gone,.gone,.gone,.gone,.gone,.cells [(.fn 128 [] [])] 0]⟩)] (lsT [.s,.i,.i] (fun x=>qi N N x.1 x.2.1 x.2.2.1) fun R o κ=>(zi o (fun a83=>κ 0 []) (fun b84=>κ 1 [])))
def kI(N:Nat):LF:=zK [] ⟨(.ptr 3 0 10)::(.cst (.int .i64 (3:Int)))::(.fn 134 [(.ptr 3 0 10)] [])::dr 14 [],[.gone,.gone,.gone,.cells [(.isl uK1),.str,(.int .i64),.str,(.cst .qB),(.cst (.int .i64 (0:Int))),(.cst (.int .i64 (0:Int))),(.cst (.bool false)),.u8,(.cst .qB)] 0,.gone,.gone,.gone,.gone,.gone,.gone,.gone,.gone,.gone,.gone,.gone,.gone]⟩ [(.panic (.ifc 86 (.agg [])),⟨dr 17 [],[.gone,.gone,.gone,.cells [(.isl uK1),.str,(.int .i64),.str,(.cst .qB),(.cst (.int .i64 (0:Int))),(.cst (.int .i64 (0:Int))),(.cst (.bool false)),.u8,(.cst .qB)] 0,.gone,.gone,.gone,.gone,.gone,.gone,.gone,.gone,.gone,.gone,.gone,.gone]⟩),(.ret,⟨dr 17 [],[.gone,.gone,.gone,.cells [(.isl uK1),.str,(.int .i64),.str,(.cst .qB),(.cst (.int .i64 (0:Int))),(.cst (.int .i64 (0:Int))),(.cst (.bool false)),.u8,(.cst .qB)] 0,.gone,.gone,.gone,.gone,.gone,.gone,.gone,.gone,.gone,.gone,.gone,.gone]⟩)] (lsT [(.l uK1),.s,.i,.s,.c] (fun x=>wx N N x.1 x.2.1 x.2.2.1 x.2.2.2.1 x.2.2.2.2.1) fun R o κ=>(zi o (fun a108=>κ 0 [.l uK1 a108.1,.s a108.2.1,.i a108.2.2.1,.s a108.2.2.2.1,.c a108.2.2.2.2]) (fun b109=>κ 1 [.l uK1 b109.1,.s b109.2.1,.i b109.2.2.1,.s b109.2.2.2.1,.c b109.2.2.2.2])))
def kJ(N:Nat):LF:=zK [] ⟨(.ptr 3 0 10)::(.cst (.int .i64 (3:Int)))::(.fn 131 [(.ptr 3 0 10)] [])::dr 14 [],[.gone,.gone,.gone,.cells [(.isl uK1),.str,(.int .i64),(.cst (.str ([]:List UInt8))),(.isl (.pair (.int .u32) (.int .u32))),(.int .i64),(.cst (.int .i64 (0:Int))),(.cst (.bool false)),.u8,(.cst .qB)] 0,.gone,.gone,.gone,.gone,.gone,.gone,.gone,.gone,.gone,.gone,.gone]⟩ [(.panic (.ifc 86 (.agg [])),⟨dr 17 [],[.gone,.gone,.gone,.cells [(.isl uK1),.str,(.int .i64),(.cst (.str ([]:List UInt8))),(.isl (.pair (.int .u32) (.int .u32))),(.int .i64),(.cst (.int .i64 (0:Int))),(.cst (.bool false)),.u8,(.cst .qB)] 0,.gone,.gone,.gone,.gone,.gone,.gone,.gone,.gone,.gone,.gone,.gone]⟩),(.ret,⟨dr 17 [],[.gone,.gone,.gone,.cells [(.isl uK1),.str,(.int .i64),(.cst (.str ([]:List UInt8))),(.isl (.pair (.int .u32) (.int .u32))),(.int .i64),(.cst (.int .i64 (0:Int))),(.cst (.bool false)),.u8,(.cst .qB)] 0,.gone,.gone,.gone,.gone,.gone,.gone,.gone,.gone,.gone,.gone,.gone]⟩)] (lsT [(.l uK1),.s,.i,(.l (.pair (.int .u32) (.int .u32))),.i,.c] (fun x=>zy N N x.1 x.2.1 x.2.2.1 x.2.2.2.1 x.2.2.2.2.1 x.2.2.2.2.2.1) fun R o κ=>(zi o (fun a158=>κ 0 [.l uK1 a158.1,.s a158.2.1,.i a158.2.2.1,.l (.pair (.int .u32) (.int .u32)) a158.2.2.2.1,.i a158.2.2.2.2.1,.c a158.2.2.2.2.2]) (fun b159=>κ 1 [.l uK1 b159.1,.s b159.2.1,.i b159.2.2.1,.l (.pair (.int .u32) (.int .u32)) b159.2.2.2.1,.i b159.2.2.2.2.1,.c b159.2.2.2.2.2])))
def kK(N:Nat):LF:=zK [] ⟨(.ptr 3 0 10)::(.cst (.int .i64 (3:Int)))::(.fn 134 [(.ptr 3 0 10)] [])::dr 14 [],[.gone,.gone,.gone,.cells [(.isl uK1),.str,(.int .i64),(.cst (.str ([]:List UInt8))),(.isl (.pair (.int .u32) (.int .u32))),(.cst (.int .i64 (0:Int))),(.int .i64),.bool,.u8,(.cst .qB)] 0,.gone,.gone,.gone,.gone,.gone,.gone,.gone,.gone,.gone,.gone,.gone,.gone,.gone,.gone,.gone,.gone]⟩ [(.panic (.ifc 86 (.agg [])),⟨dr 17 [],[.gone,.gone,.gone,.cells [(.isl uK1),.str,(.int .i64),(.cst (.str ([]:List UInt8))),(.isl (.pair (.int .u32) (.int .u32))),(.cst (.int .i64 (0:Int))),(.int .i64),.bool,.u8,(.cst .qB)] 0,.gone,.gone,.gone,.gone,.gone,.gone,.gone,.gone,.gone,.gone,.gone,.gone,.gone,.gone,.gone,.gone]⟩),(.ret,⟨dr 17 [],[.gone,.gone,.gone,.cells [(.isl uK1),.str,(.int .i64),(.cst (.str ([]:List UInt8))),(.isl (.pair (.int .u32) (.int .u32))),(.cst (.int .i64 (0:Int))),(.int .i64),.bool,.u8,(.cst .qB)] 0,.gone,.gone,.gone,.gone,.gone,.gone,.gone,.gone,.gone,.gone,.gone,.gone,.gone,.gone,.gone,.gone]⟩)] (lsT [(.l uK1),.s,.i,(.l (.pair (.int .u32) (.int .u32))),.i,.b,.c] (fun x=>zz N N x.1 x.2.1 x.2.2.1 x.2.2.2.1 x.2.2.2.2.1 x.2.2.2.2.2.1 x.2.2.2.2.2.2.1) fun R o κ=>(zi o (fun a195=>κ 0 [.l uK1 a195.1,.s a195.2.1,.i a195.2.2.1,.l (.pair (.int .u32) (.int .u32)) a195.2.2.2.1,.i a195.2.2.2.2.1,.b a195.2.2.2.2.2.1,.c a195.2.2.2.2.2.2]) (fun b196=>κ 1 [.l uK1 b196.1,.s b196.2.1,.i b196.2.2.1,.l (.pair (.int .u32) (.int .u32)) b196.2.2.2.1,.i b196.2.2.2.2.1,.b b196.2.2.2.2.2.1,.c b196.2.2.2.2.2.2])))
def kL(N:Nat):LF:=zK [] ⟨(.ptr 3 0 10)::(.cst (.int .i64 (0:Int)))::(.fn 134 [(.ptr 3 0 10)] [])::dr 14 [],[.gone,.gone,.gone,.cells [(.isl uK1),.str,(.int .i64),(.cst (.str ([]:List UInt8))),(.isl (.pair (.int .u32) (.int .u32))),(.cst (.int .i64 (0:Int))),(.int .i64),.bool,.u8,(.cst .qB)] 0,.gone,.gone,.gone,.gone,.gone,.gone,.gone,.gone,.gone,.gone,.gone,.gone,.gone,.gone]⟩ [(.panic (.ifc 86 (.agg [])),⟨dr 17 [],[.gone,.gone,.gone,.cells [(.isl uK1),.str,(.int .i64),(.cst (.str ([]:List UInt8))),(.isl (.pair (.int .u32) (.int .u32))),(.cst (.int .i64 (0:Int))),(.int .i64),.bool,.u8,(.cst .qB)] 0,.gone,.gone,.gone,.gone,.gone,.gone,.gone,.gone,.gone,.gone,.gone,.gone,.gone,.gone]⟩),(.ret,⟨dr 17 [],[.gone,.gone,.gone,.cells [(.isl uK1),.str,(.int .i64),(.cst (.str ([]:List UInt8))),(.isl (.pair (.int .u32) (.int .u32))),(.cst (.int .i64 (0:Int))),(.int .i64),.bool,.u8,(.cst .qB)] 0,.gone,.gone,.gone,.gone,.gone,.gone,.gone,.gone,.gone,.gone,.gone,.gone,.gone,.gone]⟩)] (lsT [(.l uK1),.s,.i,(.l (.pair (.int .u32) (.int .u32))),.i,.b,.c] (fun x=>zB N N x.1 x.2.1 x.2.2.1 x.2.2.2.1 x.2.2.2.2.1 x.2.2.2.2.2.1 x.2.2.2.2.2.2.1) fun R o κ=>(zi o (fun a224=>κ 0 [.l uK1 a224.1,.s a224.2.1,.i a224.2.2.1,.l (.pair (.int .u32) (.int .u32)) a224.2.2.2.1,.i a224.2.2.2.2.1,.b a224.2.2.2.2.2.1,.c a224.2.2.2.2.2.2]) (fun b225=>κ 1 [.l uK1 b225.1,.s b225.2.1,.i b225.2.2.1,.l (.pair (.int .u32) (.int .u32)) b225.2.2.2.1,.i b225.2.2.2.2.1,.b b225.2.2.2.2.2.1,.c b225.2.2.2.2.2.2])))
theorem zcM(N:Nat):Lp Tryz.f91 [1,0,1,2] (xj N):=qW zT (zsy N) .auto .nil [.s,.i,.i] [[],[]] (fun m x=>qh N m x.1 x.2.1 x.2.2.1) ⟨fun _=>(Sum.inl ()),fun _=>(Sum.inr ()),()⟩ N
theorem zcN(N:Nat):Lp Tryz.f132 [2] (xo N):=qW zT (zsy N) .auto .nil [(.l uK1),.s,.i,.s,.c] [[(.l uK1),.s,.i,.s,.c],[(.l uK1),.s,.i,.s,.c]] (fun m x=>zA N m x.1 x.2.1 x.2.2.1 x.2.2.2.1 x.2.2.2.2.1) ⟨fun x=>(Sum.inl (x.1,x.2.1,x.2.2.1,x.2.2.2.1,x.2.2.2.2.1)),fun x=>(Sum.inr (x.1,x.2.1,x.2.2.1,x.2.2.2.1,x.2.2.2.2.1)),()⟩ N
theorem zcO(N:Nat):Lp Tryz.f91 [1,0,1,2] (xq N):=qW zT (zsy N) .auto .nil [.s,.i,.i] [[],[]] (fun m x=>qi N m x.1 x.2.1 x.2.2.1) ⟨fun _=>(Sum.inl ()),fun _=>(Sum.inr ()),()⟩ N
theorem zcB(N:Nat):Lp Tryz.f132 [2] (kI N):=qW zT (zsy N) .auto .nil [(.l uK1),.s,.i,.s,.c] [[(.l uK1),.s,.i,.s,.c],[(.l uK1),.s,.i,.s,.c]] (fun m x=>wx N m x.1 x.2.1 x.2.2.1 x.2.2.2.1 x.2.2.2.2.1) ⟨fun x=>(Sum.inl (x.1,x.2.1,x.2.2.1,x.2.2.2.1,x.2.2.2.2.1)),fun x=>(Sum.inr (x.1,x.2.1,x.2.2.1,x.2.2.2.1,x.2.2.2.2.1)),()⟩ N
theorem zcD(N:Nat):Lp Tryz.f132 [2] (kJ N):=qW zT (zsy N) .auto .nil [(.l uK1),.s,.i,(.l (.pair (.int .u32) (.int .u32))),.i,.c] [[(.l uK1),.s,.i,(.l (.pair (.int .u32) (.int .u32))),.i,.c],[(.l uK1),.s,.i,(.l (.pair (.int .u32) (.int .u32))),.i,.c]] (fun m x=>zy N m x.1 x.2.1 x.2.2.1 x.2.2.2.1 x.2.2.2.2.1 x.2.2.2.2.2.1) ⟨fun x=>(Sum.inl (x.1,x.2.1,x.2.2.1,x.2.2.2.1,x.2.2.2.2.1,x.2.2.2.2.2.1)),fun x=>(Sum.inr (x.1,x.2.1,x.2.2.1,x.2.2.2.1,x.2.2.2.2.1,x.2.2.2.2.2.1)),()⟩ N
theorem zcE(N:Nat):Lp Tryz.f132 [2] (kK N):=qW zT (zsy N) .auto .nil [(.l uK1),.s,.i,(.l (.pair (.int .u32) (.int .u32))),.i,.b,.c] [[(.l uK1),.s,.i,(.l (.pair (.int .u32) (.int .u32))),.i,.b,.c],[(.l uK1),.s,.i,(.l (.pair (.int .u32) (.int .u32))),.i,.b,.c]] (fun m x=>zz N m x.1 x.2.1 x.2.2.1 x.2.2.2.1 x.2.2.2.2.1 x.2.2.2.2.2.1 x.2.2.2.2.2.2.1) ⟨fun x=>(Sum.inl (x.1,x.2.1,x.2.2.1,x.2.2.2.1,x.2.2.2.2.1,x.2.2.2.2.2.1,x.2.2.2.2.2.2.1)),fun x=>(Sum.inr (x.1,x.2.1,x.2.2.1,x.2.2.2.1,x.2.2.2.2.1,x.2.2.2.2.2.1,x.2.2.2.2.2.2.1)),()⟩ N
theorem zcF(N:Nat):Lp Tryz.f132 [2] (kL N):=qW zT (zsy N) .auto .nil [(.l uK1),.s,.i,(.l (.pair (.int .u32) (.int .u32))),.i,.b,.c] [[(.l uK1),.s,.i,(.l (.pair (.int .u32) (.int .u32))),.i,.b,.c],[(.l uK1),.s,.i,(.l (.pair (.int .u32) (.int .u32))),.i,.b,.c]] (fun m x=>zB N m x.1 x.2.1 x.2.2.1 x.2.2.2.1 x.2.2.2.2.1 x.2.2.2.2.2.1 x.2.2.2.2.2.2.1) ⟨fun x=>(Sum.inl (x.1,x.2.1,x.2.2.1,x.2.2.2.1,x.2.2.2.2.1,x.2.2.2.2.2.1,x.2.2.2.2.2.2.1)),fun x=>(Sum.inr (x.1,x.2.1,x.2.2.1,x.2.2.2.1,x.2.2.2.2.1,x.2.2.2.2.2.1,x.2.2.2.2.2.2.1)),()⟩ N
def T16(N:Nat):FT:=(16,qE [(.sl .u8)] [uK2,.bool] fun x=>kk N x.1)::(zxT N)
theorem K16(N:Nat):AT (T16 N):=zzU zT (zsy N) (.two .auto (.two .auto (.two .auto (.two .auto (.two .auto (.two .auto (.two .auto (.two .auto (.two .auto (.two .auto (.two (.cal 4 84 (.two .auto (.two .auto (.two .auto (.two (.cal 4 47 (.two .auto (.two (.cal 6 91 (.two .auto (.two (.two .auto (.one (.by_ (xj N)))) .auto)) .auto) .auto)) .auto) .auto)))) (.cal 4 85 (.two (.cal 1 84 (.two .auto (.two .auto (.two .auto (.two (.cal 4 47 (.two .auto (.two (.cal 6 91 (.two .auto (.two (.two .auto (.one (.by_ (xq N)))) .auto)) .auto) .auto)) .auto) .auto)))) .auto) (.two .auto (.two (.two .auto (.two (.two (.cal 1 129 (.two .auto (.two (.two .auto (.two (.cal 3 132 (.one (.by_ (zwY 16 (kI N)  (xo N)))) .auto) .auto)) .auto)) .auto) .auto) .auto)) .auto))) (.cal 4 86 (.two .auto (.two .auto (.two .auto (.two (.cal 3 132 (.one (.by_ (kJ N))) .auto) .auto)))) (.cal 4 87 (.two .auto (.two .auto (.two .auto (.two .auto (.two .auto (.two .auto (.two (.two .auto (.two (.two (.cal 1 129 (.two .auto (.two (.two .auto (.two (.cal 3 132 (.one (.by_ (kK N))) .auto) .auto)) .auto)) .auto) .auto) .auto)) (.cal 3 132 (.one (.by_ (kL N))) .auto)))))))) .auto)))) .auto))))))))))) Tryz.func16 (.cons (zcM N) (.cons (zcO N) (.cons (zvd (n:=16) (zcB N) (zcN N)) (.cons (zcD N) (.cons (zcE N) (.cons (zcF N) .nil))))))
def zyh(N:Nat):FT:=(153,qE [.u8] [.bool] fun x=>wY N x.1)::(T16 N)
theorem zzd(N:Nat):AT (zyh N):=fnA zT (K16 N) .auto Tryz.func153 .nil
def zxV(N:Nat):FT:=(105,qE [.u8] [.bool] fun x=>zax N x.1)::(zyh N)
theorem zxw(N:Nat):AT (zxV N):=fnA zT (zzd N) .auto Tryz.func105 .nil
def zcv(N:Nat):LF:=zK [] ⟨(.isl .u8)::dr 4 ((.int .i64)::dr 34 []),[]⟩ [(.exit 0,⟨(.isl .u8)::dr 4 ((.int .i64)::dr 34 []),[]⟩)] (lsT [(.l .u8),.i] (fun x=>jS N N x.1 x.2.1) fun R o κ=>κ 0 [.l .u8 o.1,.i o.2])
theorem zgb(N:Nat):Lp Tryz.f88 [1,1,0,2] (zcv N):=qW zT (zxw N) .auto .nil [(.l .u8),.i] [[(.l .u8),.i]] (fun m x=>jS N m x.1 x.2.1) ⟨fun x=>(x.1,x.2.1),()⟩ N
def T88(N:Nat):FT:=(88,qE [(.sl .u8)] [.str,(.int .i64),.bool] fun x=>zb7 N x.1)::(zxV N)
theorem K88(N:Nat):AT (T88 N):=fnA zT (zxw N) (.two .auto (.two .auto (.two (.one (.by_ (zcv N))) .auto))) Tryz.func88 (.cons (zgb N) .nil)
def zyC(N:Nat):FT:=(183,qE [.u8] [.bool] fun x=>j5 N x.1)::(T88 N)
theorem zxP(N:Nat):AT (zyC N):=fnA zT (K88 N) .auto Tryz.func183 .nil
def kb(N:Nat):LF:=zK [(6597069766663,.u8)] ⟨(.isl .u8)::dr 6 ((.gs 0 393217)::(.int .i64)::dr 75 []),[.seq .u8 393217 0 false]⟩ [(.ret,⟨dr 4 ((.cst .qB)::(.cst (.int .i64 (0:Int)))::(.cst (.bool false))::dr 77 []),[.seq .u8 393217 0 false]⟩),(.exit 0,⟨(.isl .u8)::dr 6 ((.gs 0 393217)::(.int .i64)::dr 75 []),[.seq .u8 393217 0 false]⟩)] (lsT [(.l .u8),.i,(.l .u8)] (fun x=>zY N N x.1 x.2.1 x.2.2.1) fun R o κ=>(zi o (fun a24=>κ 0 [.l .u8 a24]) (fun b25=>κ 1 [.l .u8 b25.1,.i b25.2.1,.l .u8 b25.2.2])))
theorem zbA(N:Nat):Lp Tryz.f164 [1,1,1,1,0,2] (kb N):=qW zT (zxP N) .auto .nil [(.l .u8),.i,(.l .u8)] [[(.l .u8)],[(.l .u8),.i,(.l .u8)]] (fun m x=>zY N m x.1 x.2.1 x.2.2.1) ⟨fun x=>(Sum.inl x.1),fun x=>(Sum.inr (x.1,x.2.1,x.2.2.1)),()⟩ N
def zyp(N:Nat):FT:=(164,qE [(.sl .u8),(.int .i64)] [(.sl .u8),(.int .i64),.bool] fun x=>jZ N x.1 x.2.1)::(zyC N)
theorem zxI(N:Nat):AT (zyp N):=fnA zT (zxP N) (.two .auto (.two .auto (.two .auto (.two .auto (.two (.one (.by_ (kb N))) .auto))))) Tryz.func164 (.cons (zbA N) .nil)
def xL(N:Nat):LF:=zK [] ⟨(.int .u32)::.drop::.drop::.str::dr 18 [],[]⟩ [(.exit 0,⟨(.int .u32)::.drop::.drop::.str::dr 18 [],[]⟩)] (lsT [.i,.s] (fun x=>qp N N x.1 x.2.1) fun R o κ=>κ 0 [.i o.1,.s o.2])
theorem zdr(N:Nat):Lp Tryz.f109 [1,1,0,2] (xL N):=qW zT (zxI N) .auto .nil [.i,.s] [[.i,.s]] (fun m x=>qp N m x.1 x.2.1) ⟨fun x=>(x.1,x.2.1),()⟩ N
def zxX(N:Nat):FT:=(109,qE [(.int .u32)] [.str] fun x=>km N x.1)::(zyp N)
theorem zxy(N:Nat):AT (zxX N):=fnA zT (zxI N) (.two .auto (.two .auto (.two (.one (.by_ (xL N))) .auto))) Tryz.func109 (.cons (zdr N) .nil)
def zav(N:Nat):LF:=zK [] ⟨.str::dr 3 ((.int .u64)::(.int .i64)::dr 38 []),[]⟩ [(.ret,⟨.drop::.drop::(.cst (.int .u32 (0:Int)))::(.cst (.bool false))::dr 40 [],[]⟩),(.exit 0,⟨.str::dr 3 ((.int .u64)::dr 39 []),[]⟩)] (lsT [.s,.i,.i] (fun x=>qH N N x.1 x.2.1 x.2.2.1) fun R o κ=>(zi o (fun a8=>κ 0 []) (fun b9=>κ 1 [.s b9.1,.i b9.2])))
theorem zdI(N:Nat):Lp Tryz.f155 [1,1,1,0,1,2] (zav N):=qW zT (zxy N) .auto .nil [.s,.i,.i] [[],[.s,.i]] (fun m x=>qH N m x.1 x.2.1 x.2.2.1) ⟨fun _=>(Sum.inl ()),fun x=>(Sum.inr (x.1,x.2.1)),()⟩ N
def zyi(N:Nat):FT:=(155,qE [.str] [(.int .u32),.bool] fun x=>jQ N x.1)::(zxX N)
theorem zxH(N:Nat):AT (zyi N):=fnA zT (zxy N) (.two .auto (.two .auto (.two .auto (.two (.two .auto (.one (.by_ (zav N)))) .auto)))) Tryz.func155 (.cons (zdI N) .nil)
def wZ(N:Nat):LF:=zK [] ⟨(.isl .u8)::(.int .i64)::dr 5 ((.int .i64)::dr 112 []),[]⟩ [(.exit 0,⟨(.isl .u8)::(.int .i64)::dr 5 ((.int .i64)::dr 112 []),[]⟩)] (lsT [(.l .u8),.i,.i] (fun x=>zX N N x.1 x.2.1 x.2.2.1) fun R o κ=>κ 0 [.l .u8 o.1,.i o.2.1,.i o.2.2])
theorem zbz(N:Nat):Lp Tryz.f165 [1,1,1,0,2] (wZ N):=qW zT (zxH N) .auto .nil [(.l .u8),.i,.i] [[(.l .u8),.i,.i]] (fun m x=>zX N m x.1 x.2.1 x.2.2.1) ⟨fun x=>(x.1,x.2.1,x.2.2.1),()⟩ N
def zyq(N:Nat):FT:=(165,qE [(.sl .u8),(.int .i64)] [(.sl .u8),(.int .i64),.bool] fun x=>qN N x.1 x.2.1)::(zyi N)
theorem zzj(N:Nat):AT (zyq N):=fnA zT (zxH N) (.two .auto (.two .auto (.two .auto (.two (.one (.by_ (wZ N))) .auto)))) Tryz.func165 (.cons (zbz N) .nil)
def zyr(N:Nat):FT:=(166,qE [.u8] [.bool] fun x=>jL N x.1)::(zyq N)
theorem zxJ(N:Nat):AT (zyr N):=fnA zT (zzj N) .auto Tryz.func166 .nil
def zbB(N:Nat):LF:=zK [] ⟨(.isl .u8)::(.int .i64)::.drop::.drop::(.ptr 0 0 3)::.drop::.drop::(.ptr 1 0 3)::dr 6 ((.int .i64)::dr 88 []),[.gone,.gone]⟩ [(.exit 1,⟨(.isl .u8)::(.int .i64)::.drop::.drop::(.ptr 0 0 3)::.drop::.drop::(.ptr 1 0 3)::dr 6 ((.int .i64)::dr 88 []),[.gone,.gone]⟩)] (lsT [(.l .u8),.i,.i] (fun x=>ju N N x.1 x.2.1 x.2.2.1) fun R o κ=>κ 0 [.l .u8 o.1,.i o.2.1,.i o.2.2])
theorem ze9(N:Nat):Lp Tryz.f135 [1,1,1,1,1,0,2] (zbB N):=qW zT (zxJ N) .auto .nil [(.l .u8),.i,.i] [[(.l .u8),.i,.i]] (fun m x=>ju N m x.1 x.2.1 x.2.2.1) ⟨fun x=>(x.1,x.2.1,x.2.2.1),()⟩ N
def zx4(N:Nat):FT:=(135,qE [(.sl .u8),(.int .i64)] [uK1,(.int .i64),.bool] fun x=>xx N x.1 x.2.1)::(zyr N)
theorem zxD(N:Nat):AT (zx4 N):=fnA zT (zxJ N) (.two .auto (.two .auto (.two .auto (.two .auto (.two .auto (.two (.one (.by_ (zbB N))) .auto)))))) Tryz.func135 (.cons (ze9 N) .nil)
def xN(N:Nat):LF:=zK [(4,uK1)] ⟨(.isl .u8)::dr 3 ((.gs 0 1)::(.int .i64)::dr 22 []),[.seq uK1 1 0 false]⟩ [(.ret,⟨.drop::.drop::(.cst .qB)::(.int .i64)::dr 24 [],[.seq uK1 1 0 false]⟩),(.ret,⟨.drop::.drop::(.gs 0 1)::(.cst (.int .i64 (-1:Int)))::dr 24 [],[.seq uK1 1 0 false]⟩)] (lsT [(.l .u8),.i,(.l uK1)] (fun x=>zU N N x.1 x.2.1 x.2.2.1) fun R o κ=>(zi o (fun a18=>κ 0 [.i a18.1,.l uK1 a18.2]) (fun b19=>κ 1 [.l uK1 b19])))
theorem zds(N:Nat):Lp Tryz.f89 [1,1,1,2] (xN N):=qW zT (zxD N) .auto .nil [(.l .u8),.i,(.l uK1)] [[.i,(.l uK1)],[(.l uK1)]] (fun m x=>zU N m x.1 x.2.1 x.2.2.1) ⟨fun x=>(Sum.inl (x.1,x.2.1)),fun x=>(Sum.inr x.1),()⟩ N
def T89(N:Nat):FT:=(89,qE [(.sl .u8)] [(.sl uK1),(.int .i64)] fun x=>kZ N x.1)::(zx4 N)
theorem K89(N:Nat):AT (T89 N):=fnA zT (zxD N) (.two .auto (.two .auto (.two .auto (.one (.by_ (xN N)))))) Tryz.func89 (.cons (zds N) .nil)
def T65(N:Nat):FT:=(65,qE [(.int .i64)] [.str] fun x=>zfE N x.1)::(T89 N)
theorem K65(N:Nat):AT (T65 N):=fnA zT (K89 N) .auto Tryz.func65 .nil
def za0(N:Nat):LF:=zK [] ⟨.str::.drop::.drop::.str::(.int .i64)::dr 24 [],[]⟩ [(.exit 0,⟨dr 3 (.str::dr 25 []),[]⟩)] (lsT [.s,.s,.i] (fun x=>jd N N x.1 x.2.1 x.2.2.1) fun R o κ=>κ 0 [.s o])
theorem zed(N:Nat):Lp Tryz.f167 [1,1,0,1,2] (za0 N):=qW zT (K65 N) .auto .nil [.s,.s,.i] [[.s]] (fun m x=>jd N m x.1 x.2.1 x.2.2.1) ⟨fun x=>x.1,()⟩ N
def zys(N:Nat):FT:=(167,qE [.str] [.str] fun x=>zm N x.1)::(T65 N)
theorem zxK(N:Nat):AT (zys N):=fnA zT (K65 N) (.two .auto (.two .auto (.two (.two .auto (.one (.by_ (za0 N)))) .auto))) Tryz.func167 (.cons (zed N) .nil)
def za3(N:Nat):LF:=zK [] ⟨.str::.drop::.drop::(.int .i64)::dr 10 [],[]⟩ [(.ret,⟨.drop::.drop::(.int .i64)::dr 11 [],[]⟩),(.exit 0,⟨dr 14 [],[]⟩)] (lsT [.s,.i] (fun x=>zb N N x.1 x.2.1) fun R o κ=>(zi o (fun a15=>κ 0 [.i a15]) (fun b16=>κ 1 [])))
theorem zeg(N:Nat):Lp Tryz.f136 [1,0,1,2] (za3 N):=qW zT (zxK N) .auto .nil [.s,.i] [[.i],[]] (fun m x=>zb N m x.1 x.2.1) ⟨fun x=>(Sum.inl x.1),fun _=>(Sum.inr ()),()⟩ N
def zx5(N:Nat):FT:=(136,qE [.str] [(.int .i64)] fun x=>kg N x.1)::(zys N)
theorem zxE(N:Nat):AT (zx5 N):=fnA zT (zxK N) (.two .auto (.two (.two .auto (.one (.by_ (za3 N)))) .auto)) Tryz.func136 (.cons (zeg N) .nil)
def za9(N:Nat):LF:=zK [] ⟨(.isl uK1)::.drop::.drop::.str::(.int .i64)::dr 21 [],[]⟩ [(.exit 0,⟨dr 3 (.str::dr 22 []),[]⟩)] (lsT [(.l uK1),.s,.i] (fun x=>jg N N x.1 x.2.1 x.2.2.1) fun R o κ=>κ 0 [.s o])
theorem zel(N:Nat):Lp Tryz.f137 [1,1,0,1,2] (za9 N):=qW zT (zxE N) .auto .nil [(.l uK1),.s,.i] [[.s]] (fun m x=>jg N m x.1 x.2.1 x.2.2.1) ⟨fun x=>x.1,()⟩ N
def zx6(N:Nat):FT:=(137,qE [(.sl uK1)] [.str] fun x=>zac N x.1)::(zx5 N)
theorem zxF(N:Nat):AT (zx6 N):=fnA zT (zxE N) (.two .auto (.two .auto (.two (.two .auto (.one (.by_ (za9 N)))) .auto))) Tryz.func137 (.cons (zel N) .nil)
def xz(N:Nat):LF:=zK [] ⟨.drop::(.ptr 0 0 3)::.drop::(.int .i64)::dr 31 [],[.cells [(.int .i64),.str,(.int .i64)] 0]⟩ [(.ret,⟨.drop::.drop::(.cst (.bool false))::dr 32 [],[.cells [(.int .i64),.str,(.int .i64)] 0]⟩),(.exit 0,⟨dr 35 [],[.cells [(.int .i64),.str,(.int .i64)] 0]⟩)] (lsT [.i,.i,.s,.i] (fun x=>qk N N x.1 x.2.1 x.2.2.1 x.2.2.2.1) fun R o κ=>(zi o (fun a15=>κ 0 [.i a15.1,.s a15.2.1,.i a15.2.2]) (fun b16=>κ 1 [.i b16.1,.s b16.2.1,.i b16.2.2])))
theorem zcS(N:Nat):Lp Tryz.f138 [1,1,0,1,2] (xz N):=qW zT (zxF N) .auto .nil [.i,.i,.s,.i] [[.i,.s,.i],[.i,.s,.i]] (fun m x=>qk N m x.1 x.2.1 x.2.2.1 x.2.2.2.1) ⟨fun x=>(Sum.inl (x.1,x.2.1,x.2.2.1)),fun x=>(Sum.inr (x.1,x.2.1,x.2.2.1)),()⟩ N
def zx7(N:Nat):FT:=(138,qE [uK1] [.bool] fun x=>ku N x.1)::(zx6 N)
theorem zy4(N:Nat):AT (zx7 N):=fnA zT (zxF N) (.two .auto (.two .auto (.two (.two .auto (.one (.by_ (xz N)))) .auto))) Tryz.func138 (.cons (zcS N) .nil)
def zxW(N:Nat):FT:=(108,qE [(.int .i64)] [.str] fun x=>zfD N x.1)::(zx7 N)
theorem zxx(N:Nat):AT (zxW N):=fnA zT (zy4 N) .auto Tryz.func108 .nil
def za8(N:Nat):LF:=zK [] ⟨.str::.drop::.drop::(.int .i64)::dr 11 [],[]⟩ [(.ret,⟨.drop::.drop::(.int .i64)::dr 12 [],[]⟩),(.exit 0,⟨dr 15 [],[]⟩)] (lsT [.s,.i] (fun x=>zk N N x.1 x.2.1) fun R o κ=>(zi o (fun a19=>κ 0 [.i a19]) (fun b20=>κ 1 [])))
theorem zej(N:Nat):Lp Tryz.f170 [1,0,1,2] (za8 N):=qW zT (zxx N) .auto .nil [.s,.i] [[.i],[]] (fun m x=>zk N m x.1 x.2.1) ⟨fun x=>(Sum.inl x.1),fun _=>(Sum.inr ()),()⟩ N
def zyv(N:Nat):FT:=(170,qE [.str] [(.int .i64)] fun x=>xy N x.1)::(zxW N)
theorem zzl(N:Nat):AT (zyv N):=fnA zT (zxx N) (.two .auto (.two (.two .auto (.one (.by_ (za8 N)))) .auto)) Tryz.func170 (.cons (zej N) .nil)
def zxY(N:Nat):FT:=(111,qE [(.int .i64)] [.str] fun x=>zcx N x.1)::(zyv N)
theorem zxz(N:Nat):AT (zxY N):=fnA zT (zzl N) .auto Tryz.func111 .nil
def za2(N:Nat):LF:=zK [] ⟨.str::.drop::.drop::(.int .i64)::dr 10 [],[]⟩ [(.ret,⟨.drop::.drop::(.int .i64)::dr 11 [],[]⟩),(.exit 0,⟨dr 14 [],[]⟩)] (lsT [.s,.i] (fun x=>zj N N x.1 x.2.1) fun R o κ=>(zi o (fun a15=>κ 0 [.i a15]) (fun b16=>κ 1 [])))
theorem zee(N:Nat):Lp Tryz.f171 [1,0,1,2] (za2 N):=qW zT (zxz N) .auto .nil [.s,.i] [[.i],[]] (fun m x=>zj N m x.1 x.2.1) ⟨fun x=>(Sum.inl x.1),fun _=>(Sum.inr ()),()⟩ N
def zyw(N:Nat):FT:=(171,qE [.str] [(.int .i64)] fun x=>kf N x.1)::(zxY N)
theorem zxM(N:Nat):AT (zyw N):=fnA zT (zxz N) (.two .auto (.two (.two .auto (.one (.by_ (za2 N)))) .auto)) Tryz.func171 (.cons (zee N) .nil)
def zaD(N:Nat):LF:=zK [] ⟨(.isl uK1)::.bool::dr 4 ((.int .i64)::(.int .i64)::dr 45 []),[]⟩ [(.ret,⟨dr 4 ((.cst (.int .i64 (0:Int)))::(.cst (.bool false))::dr 47 []),[]⟩),(.exit 0,⟨(.isl uK1)::dr 5 ((.int .i64)::dr 46 []),[]⟩)] (lsT [(.l uK1),.b,.i,.i] (fun x=>zH N N x.1 x.2.1 x.2.2.1 x.2.2.2.1) fun R o κ=>(zi o (fun a16=>κ 0 []) (fun b17=>κ 1 [.l uK1 b17.1,.i b17.2])))
theorem zdM(N:Nat):Lp Tryz.f142 [1,1,0,1,2] (zaD N):=qW zT (zxM N) .auto .nil [(.l uK1),.b,.i,.i] [[],[(.l uK1),.i]] (fun m x=>zH N m x.1 x.2.1 x.2.2.1 x.2.2.2.1) ⟨fun _=>(Sum.inl ()),fun x=>(Sum.inr (x.1,x.2.1)),()⟩ N
def zyb(N:Nat):FT:=(142,qE [(.sl uK1),.bool] [(.int .i64),.bool] fun x=>wo N x.1 x.2.1)::(zyw N)
theorem zy7(N:Nat):AT (zyb N):=fnA zT (zxM N) (.two .auto (.two .auto (.two (.two .auto (.one (.by_ (zaD N)))) .auto))) Tryz.func142 (.cons (zdM N) .nil)
def zya(N:Nat):FT:=(141,qE [(.sl uK1),.bool] [(.int .i64),.bool] fun x=>jC N x.1 x.2.1)::(zyb N)
theorem zy6(N:Nat):AT (zya N):=fnA zT (zy7 N) .auto Tryz.func141 .nil
def zx8(N:Nat):FT:=(139,qE [uK2,(.sl uK1)] [uK2,.bool] fun x=>jf N x.1 x.2.1)::(zya N)
theorem zxG(N:Nat):AT (zx8 N):=fnA zT (zy6 N) .auto Tryz.func139 .nil
def zaA(N:Nat):LF:=zK [(5,.str)] ⟨.str::.u8::dr 3 ((.gs 0 1)::(.int .i64)::(.int .i64)::dr 27 []),[.seq .str 1 0 false]⟩ [(.exit 0,⟨dr 5 ((.gs 0 1)::dr 29 []),[.seq .str 1 0 false]⟩)] (lsT [.s,.c,.i,.i,(.l .str)] (fun x=>qb N N x.1 x.2.1 x.2.2.1 x.2.2.2.1 x.2.2.2.2.1) fun R o κ=>κ 0 [.l .str o])
theorem zdK(N:Nat):Lp Tryz.f168 [1,1,1,0,1,2] (zaA N):=qW zT (zxG N) .auto .nil [.s,.c,.i,.i,(.l .str)] [[(.l .str)]] (fun m x=>qb N m x.1 x.2.1 x.2.2.1 x.2.2.2.1 x.2.2.2.2.1) ⟨fun x=>x.1,()⟩ N
def zyt(N:Nat):FT:=(168,qE [.str,.u8] [(.sl .str)] fun x=>kq N x.1 x.2.1)::(zx8 N)
theorem zzk(N:Nat):AT (zyt N):=fnA zT (zxG N) (.two .auto (.two .auto (.two .auto (.two (.two .auto (.one (.by_ (zaA N)))) .auto)))) Tryz.func168 (.cons (zdK N) .nil)
def zyu(N:Nat):FT:=(169,qE [.str] [(.int .u32),.bool] fun x=>wD N x.1)::(zyt N)
theorem zxL(N:Nat):AT (zyu N):=fnA zT (zzk N) .auto Tryz.func169 .nil
def zay(N:Nat):LF:=zK [(4,(.pair (.int .u32) (.int .u32)))] ⟨dr 4 ((.gs 0 1)::(.isl .str)::(.int .i64)::dr 51 []),[.seq (.pair (.int .u32) (.int .u32)) 1 0 false]⟩ [(.ret,⟨.drop::.drop::(.cst .qB)::(.cst (.bool false))::dr 54 [],[.seq (.pair (.int .u32) (.int .u32)) 1 0 false]⟩),(.exit 0,⟨dr 4 ((.gs 0 1)::dr 53 []),[.seq (.pair (.int .u32) (.int .u32)) 1 0 false]⟩)] (lsT [(.l .str),.i,(.l (.pair (.int .u32) (.int .u32)))] (fun x=>zG N N x.1 x.2.1 x.2.2.1) fun R o κ=>(zi o (fun a28=>κ 0 [.l (.pair (.int .u32) (.int .u32)) a28]) (fun b29=>κ 1 [.l (.pair (.int .u32) (.int .u32)) b29])))
theorem zdJ(N:Nat):Lp Tryz.f140 [1,1,1,0,1,2] (zay N):=qW zT (zxL N) .auto .nil [(.l .str),.i,(.l (.pair (.int .u32) (.int .u32)))] [[(.l (.pair (.int .u32) (.int .u32)))],[(.l (.pair (.int .u32) (.int .u32)))]] (fun m x=>zG N m x.1 x.2.1 x.2.2.1) ⟨fun x=>(Sum.inl x.1),fun x=>(Sum.inr x.1),()⟩ N
def zx9(N:Nat):FT:=(140,qE [.str] [(.sl (.pair (.int .u32) (.int .u32))),.bool] fun x=>ko N x.1)::(zyu N)
theorem zy5(N:Nat):AT (zx9 N):=fnA zT (zxL N) (.two .auto (.two .auto (.two .auto (.two (.two .auto (.one (.by_ (zay N)))) .auto)))) Tryz.func140 (.cons (zdJ N) .nil)
def zyc(N:Nat):FT:=(143,qE [.str] [(.int .i64),.bool] fun x=>zbb N x.1)::(zx9 N)
theorem zy8(N:Nat):AT (zyc N):=fnA zT (zy5 N) .auto Tryz.func143 .nil
def T90(N:Nat):FT:=(90,qE [.str,(.sl uK1)] [uK2,.bool] fun x=>za7 N x.1 x.2.1)::(zyc N)
theorem K90(N:Nat):AT (T90 N):=fnA zT (zy8 N) .auto Tryz.func90 .nil
def T46(N:Nat):FT:=(46,qE [(.sl .u8)] [uK2,.bool] fun x=>zab N x.1)::(T90 N)
theorem K46(N:Nat):AT (T46 N):=fnA zT (K90 N) .auto Tryz.func46 .nil
def za5(N:Nat):LF:=zK [] ⟨.drop::.drop::(.ptr 0 0 9)::(.ptr 1 0 9)::.drop::(.int .i64)::dr 81 [],[.cells [.str,(.int .i64),.str,(.isl (.pair (.int .u32) (.int .u32))),(.int .i64),(.int .i64),.bool,.u8,(.isl .u8)] 0,.cells [.str,(.int .i64),.str,(.isl (.pair (.int .u32) (.int .u32))),(.int .i64),(.int .i64),.bool,.u8,(.isl .u8)] 0]⟩ [(.ret,⟨dr 4 ((.cst (.bool false))::dr 82 []),[.cells [.str,(.int .i64),.str,(.isl (.pair (.int .u32) (.int .u32))),(.int .i64),(.int .i64),.bool,.u8,(.isl .u8)] 0,.cells [.str,(.int .i64),.str,(.isl (.pair (.int .u32) (.int .u32))),(.int .i64),(.int .i64),.bool,.u8,(.isl .u8)] 0]⟩),(.exit 0,⟨.drop::.drop::(.ptr 0 0 9)::(.ptr 1 0 9)::dr 83 [],[.cells [.str,(.int .i64),.str,(.isl (.pair (.int .u32) (.int .u32))),(.int .i64),(.int .i64),.bool,.u8,(.isl .u8)] 0,.cells [.str,(.int .i64),.str,(.isl (.pair (.int .u32) (.int .u32))),(.int .i64),(.int .i64),.bool,.u8,(.isl .u8)] 0]⟩)] (lsT [.i,.s,.i,.s,(.l (.pair (.int .u32) (.int .u32))),.i,.i,.b,.c,(.l .u8),.s,.i,.s,(.l (.pair (.int .u32) (.int .u32))),.i,.i,.b,.c,(.l .u8)] (fun x=>je N N x.1 x.2.1 x.2.2.1 x.2.2.2.1 x.2.2.2.2.1 x.2.2.2.2.2.1 x.2.2.2.2.2.2.1 x.2.2.2.2.2.2.2.1 x.2.2.2.2.2.2.2.2.1 x.2.2.2.2.2.2.2.2.2.1 x.2.2.2.2.2.2.2.2.2.2.1 x.2.2.2.2.2.2.2.2.2.2.2.1 x.2.2.2.2.2.2.2.2.2.2.2.2.1 x.2.2.2.2.2.2.2.2.2.2.2.2.2.1 x.2.2.2.2.2.2.2.2.2.2.2.2.2.2.1 x.2.2.2.2.2.2.2.2.2.2.2.2.2.2.2.1 x.2.2.2.2.2.2.2.2.2.2.2.2.2.2.2.2.1 x.2.2.2.2.2.2.2.2.2.2.2.2.2.2.2.2.2.1 x.2.2.2.2.2.2.2.2.2.2.2.2.2.2.2.2.2.2.1) fun R o κ=>(zi o (fun a41=>κ 0 [.s a41.1,.i a41.2.1,.s a41.2.2.1,.l (.pair (.int .u32) (.int .u32)) a41.2.2.2.1,.i a41.2.2.2.2.1,.i a41.2.2.2.2.2.1,.b a41.2.2.2.2.2.2.1,.c a41.2.2.2.2.2.2.2.1,.l .u8 a41.2.2.2.2.2.2.2.2.1,.s a41.2.2.2.2.2.2.2.2.2.1,.i a41.2.2.2.2.2.2.2.2.2.2.1,.s a41.2.2.2.2.2.2.2.2.2.2.2.1,.l (.pair (.int .u32) (.int .u32)) a41.2.2.2.2.2.2.2.2.2.2.2.2.1,.i a41.2.2.2.2.2.2.2.2.2.2.2.2.2.1,.i a41.2.2.2.2.2.2.2.2.2.2.2.2.2.2.1,.b a41.2.2.2.2.2.2.2.2.2.2.2.2.2.2.2.1,.c a41.2.2.2.2.2.2.2.2.2.2.2.2.2.2.2.2.1,.l .u8 a41.2.2.2.2.2.2.2.2.2.2.2.2.2.2.2.2.2]) (fun b42=>κ 1 [.s b42.1,.i b42.2.1,.s b42.2.2.1,.l (.pair (.int .u32) (.int .u32)) b42.2.2.2.1,.i b42.2.2.2.2.1,.i b42.2.2.2.2.2.1,.b b42.2.2.2.2.2.2.1,.c b42.2.2.2.2.2.2.2.1,.l .u8 b42.2.2.2.2.2.2.2.2.1,.s b42.2.2.2.2.2.2.2.2.2.1,.i b42.2.2.2.2.2.2.2.2.2.2.1,.s b42.2.2.2.2.2.2.2.2.2.2.2.1,.l (.pair (.int .u32) (.int .u32)) b42.2.2.2.2.2.2.2.2.2.2.2.2.1,.i b42.2.2.2.2.2.2.2.2.2.2.2.2.2.1,.i b42.2.2.2.2.2.2.2.2.2.2.2.2.2.2.1,.b b42.2.2.2.2.2.2.2.2.2.2.2.2.2.2.2.1,.c b42.2.2.2.2.2.2.2.2.2.2.2.2.2.2.2.2.1,.l .u8 b42.2.2.2.2.2.2.2.2.2.2.2.2.2.2.2.2.2])))
theorem zei(N:Nat):Lp Tryz.f17 [1,1,0,1,2] (za5 N):=qW zT (K46 N) .auto .nil [.i,.s,.i,.s,(.l (.pair (.int .u32) (.int .u32))),.i,.i,.b,.c,(.l .u8),.s,.i,.s,(.l (.pair (.int .u32) (.int .u32))),.i,.i,.b,.c,(.l .u8)] [[.s,.i,.s,(.l (.pair (.int .u32) (.int .u32))),.i,.i,.b,.c,(.l .u8),.s,.i,.s,(.l (.pair (.int .u32) (.int .u32))),.i,.i,.b,.c,(.l .u8)],[.s,.i,.s,(.l (.pair (.int .u32) (.int .u32))),.i,.i,.b,.c,(.l .u8),.s,.i,.s,(.l (.pair (.int .u32) (.int .u32))),.i,.i,.b,.c,(.l .u8)]] (fun m x=>je N m x.1 x.2.1 x.2.2.1 x.2.2.2.1 x.2.2.2.2.1 x.2.2.2.2.2.1 x.2.2.2.2.2.2.1 x.2.2.2.2.2.2.2.1 x.2.2.2.2.2.2.2.2.1 x.2.2.2.2.2.2.2.2.2.1 x.2.2.2.2.2.2.2.2.2.2.1 x.2.2.2.2.2.2.2.2.2.2.2.1 x.2.2.2.2.2.2.2.2.2.2.2.2.1 x.2.2.2.2.2.2.2.2.2.2.2.2.2.1 x.2.2.2.2.2.2.2.2.2.2.2.2.2.2.1 x.2.2.2.2.2.2.2.2.2.2.2.2.2.2.2.1 x.2.2.2.2.2.2.2.2.2.2.2.2.2.2.2.2.1 x.2.2.2.2.2.2.2.2.2.2.2.2.2.2.2.2.2.1 x.2.2.2.2.2.2.2.2.2.2.2.2.2.2.2.2.2.2.1) ⟨fun x=>(Sum.inl (x.1,x.2.1,x.2.2.1,x.2.2.2.1,x.2.2.2.2.1,x.2.2.2.2.2.1,x.2.2.2.2.2.2.1,x.2.2.2.2.2.2.2.1,x.2.2.2.2.2.2.2.2.1,x.2.2.2.2.2.2.2.2.2.1,x.2.2.2.2.2.2.2.2.2.2.1,x.2.2.2.2.2.2.2.2.2.2.2.1,x.2.2.2.2.2.2.2.2.2.2.2.2.1,x.2.2.2.2.2.2.2.2.2.2.2.2.2.1,x.2.2.2.2.2.2.2.2.2.2.2.2.2.2.1,x.2.2.2.2.2.2.2.2.2.2.2.2.2.2.2.1,x.2.2.2.2.2.2.2.2.2.2.2.2.2.2.2.2.1,x.2.2.2.2.2.2.2.2.2.2.2.2.2.2.2.2.2.1)),fun x=>(Sum.inr (x.1,x.2.1,x.2.2.1,x.2.2.2.1,x.2.2.2.2.1,x.2.2.2.2.2.1,x.2.2.2.2.2.2.1,x.2.2.2.2.2.2.2.1,x.2.2.2.2.2.2.2.2.1,x.2.2.2.2.2.2.2.2.2.1,x.2.2.2.2.2.2.2.2.2.2.1,x.2.2.2.2.2.2.2.2.2.2.2.1,x.2.2.2.2.2.2.2.2.2.2.2.2.1,x.2.2.2.2.2.2.2.2.2.2.2.2.2.1,x.2.2.2.2.2.2.2.2.2.2.2.2.2.2.1,x.2.2.2.2.2.2.2.2.2.2.2.2.2.2.2.1,x.2.2.2.2.2.2.2.2.2.2.2.2.2.2.2.2.1,x.2.2.2.2.2.2.2.2.2.2.2.2.2.2.2.2.2.1)),()⟩ N
def T17(N:Nat):FT:=(17,qE [uK2,uK2] [.bool] fun x=>za4 N x.1 x.2.1)::(T46 N)
theorem K17(N:Nat):AT (T17 N):=fnA zT (K46 N) (.two .auto (.two .auto (.two (.two .auto (.one (.by_ (za5 N)))) .auto))) Tryz.func17 (.cons (zei N) .nil)
def zyd(N:Nat):FT:=(149,zsJ uK3 [] [.bool] fun p x=>qa N p)::(T17 N)
theorem zy9(N:Nat):AT (zyd N):=fnP zT (K17 N) .auto Tryz.func149 .nil
def zye(N:Nat):FT:=(150,zsJ uK3 [] [(.int .i64),.bool] fun p x=>jl N p)::(zyd N)
theorem zza(N:Nat):AT (zye N):=fnP zT (zy9 N) .auto Tryz.func150 .nil
def zyJ(N:Nat):FT:=(198,qE [(.sl .u8),(.sl .u8)] [.bool] fun x=>zb3 N x.1 x.2.1)::(zye N)
theorem zzt(N:Nat):AT (zyJ N):=fnA zT (zza N) .auto Tryz.func198 .nil
def zyK(N:Nat):FT:=(202,qE [(.sl .u8),(.sl .u8)] [.bool] fun x=>kP N x.1 x.2.1)::(zyJ N)
theorem zzu(N:Nat):AT (zyK N):=fnA zT (zzt N) .auto Tryz.func202 .nil
def zyy(N:Nat):FT:=(179,qE [(.sl .u8),(.sl .u8)] [(.sl .u8),.bool] fun x=>wh N x.1 x.2.1)::(zyK N)
theorem zxO(N:Nat):AT (zyy N):=fnA zT (zzu N) .auto Tryz.func179 .nil
def jX(N:Nat):LF:=zK [] ⟨(.isl .u8)::.u8::dr 3 ((.int .i64)::dr 14 []),[]⟩ [(.ret,⟨dr 4 ((.int .i64)::dr 15 []),[]⟩),(.exit 0,⟨dr 20 [],[]⟩)] (lsT [(.l .u8),.c,.i] (fun x=>zC N N x.1 x.2.1 x.2.2.1) fun R o κ=>(zi o (fun a7=>κ 0 [.i a7]) (fun b8=>κ 1 [])))
theorem xX(N:Nat):Lp Tryz.f203 [1,0,1,2] (jX N):=qW zT (zxO N) .auto .nil [(.l .u8),.c,.i] [[.i],[]] (fun m x=>zC N m x.1 x.2.1 x.2.2.1) ⟨fun x=>(Sum.inl x.1),fun _=>(Sum.inr ()),()⟩ N
def zyL(N:Nat):FT:=(203,qE [(.sl .u8),.u8] [(.int .i64)] fun x=>jE N x.1 x.2.1)::(zyy N)
theorem zzv(N:Nat):AT (zyL N):=fnA zT (zxO N) (.two .auto (.two (.two .auto (.one (.by_ (jX N)))) .auto)) Tryz.func203 (.cons (xX N) .nil)
def zyz(N:Nat):FT:=(180,qE [(.sl .u8),.u8] [(.int .i64)] fun x=>ji N x.1 x.2.1)::(zyL N)
theorem zzm(N:Nat):AT (zyz N):=fnA zT (zzv N) .auto Tryz.func180 .nil
def zyf(N:Nat):FT:=(151,qE [(.sl .u8)] [(.int .i64),.bool] fun x=>wk N x.1)::(zyz N)
theorem zzb(N:Nat):AT (zyf N):=fnA zT (zzm N) .auto Tryz.func151 .nil
def zyg(N:Nat):FT:=(152,zsJ uK3 [(.int .i64),(.sl .u8),(.int .i64)] [(.pair (.int .i64) (.sl .u8)),.bool] fun p x=>zP N p x.1 x.2.1 x.2.2.1)::(zyf N)
theorem zzc(N:Nat):AT (zyg N):=fnP zT (zzb N) .auto Tryz.func152 .nil
def zxU(N:Nat):FT:=(104,zsJ uK3 [] [(.pair (.int .i64) (.sl .u8)),.bool] fun p x=>zE N p)::(zyg N)
theorem zy1(N:Nat):AT (zxU N):=fnP zT (zzc N) .auto Tryz.func104 .nil
def T63(N:Nat):FT:=(63,zsJ uK3 [] [(.int .i64)] fun p x=>jk N p)::(zxU N)
theorem K63(N:Nat):AT (T63 N):=fnP zT (zy1 N) .auto Tryz.func63 .nil
def wK(N:Nat):LF:=zK [] ⟨(.yld 4)::(.ptr 3 0 1)::dr 16 [],[.cells [(.isl .u8),(.int .i64),(.int .i64),(.int .i64)] 0,.gone,.cells [(.gs 8 1)] 0,.cells [(.ptr 0 0 4)] 0,.loop [.drop,.drop,.drop,.drop,.drop,(.ptr 2 0 1),.drop,.drop,.drop,.drop,.drop,.drop,.drop,.drop,.drop,.drop,.drop,.drop,.drop,.drop,.drop] 464 0,.gone,.gone,.gone,.seq (.pair (.int .i64) (.sl .u8)) 1 0 false]⟩ [(.ret,⟨dr 18 [],[.cells [(.isl .u8),(.int .i64),(.int .i64),(.int .i64)] 0,.gone,.cells [(.gs 8 1)] 0,.cells [(.ptr 0 0 4)] 0,.loop [.drop,.drop,.drop,.drop,.drop,(.ptr 2 0 1),.drop,.drop,.drop,.drop,.drop,.drop,.drop,.drop,.drop,.drop,.drop,.drop,.drop,.drop,.drop] 464 0,.gone,.gone,.gone,.seq (.pair (.int .i64) (.sl .u8)) 1 0 false]⟩)] (lsT [(.l .u8),.i,.i,.i,(.l (.pair (.int .i64) (.sl .u8)))] (fun x=>qG N N x.1 x.2.1 x.2.2.1 x.2.2.2.1 x.2.2.2.2.1) fun R o κ=>κ 0 [.l .u8 o.1,.i o.2.1,.i o.2.2.1,.i o.2.2.2.1,.l (.pair (.int .i64) (.sl .u8)) o.2.2.2.2])
theorem zdH(N:Nat):Lp Tryz.f103 [2] (wK N):=qW zT (K63 N) .auto .nil [(.l .u8),.i,.i,.i,(.l (.pair (.int .i64) (.sl .u8)))] [[(.l .u8),.i,.i,.i,(.l (.pair (.int .i64) (.sl .u8)))]] (fun m x=>qG N m x.1 x.2.1 x.2.2.1 x.2.2.2.1 x.2.2.2.2.1) ⟨fun x=>(x.1,x.2.1,x.2.2.1,x.2.2.2.1,x.2.2.2.2.1),()⟩ N
def T29(N:Nat):FT:=(29,qE [(.sl .u8)] [(.sl (.pair (.int .i64) (.sl .u8))),(.int .i64)] fun x=>xZ N x.1)::(T63 N)
theorem K29(N:Nat):AT (T29 N):=fnA zT (K63 N) (.two .auto (.two .auto (.two .auto (.two .auto (.two (.two .auto (.one (.by_ (zuq Tryz.prog glA (zgA (T63 N)) Tryz.f29 [1,1,1,1,0,1,2] 464 (.cal 0 103 (.one (.two .auto (.by_ (wK N)))) .auto))))) .auto))))) Tryz.func29 (.cons (zAd zT (K63 N) Tryz.f29 [1,1,1,1,0,1,2] 464 (.cal 0 103 (.one (.two .auto (.by_ (wK N)))) .auto) (.cons (zdH N) .nil)) .nil)
def zct(N:Nat):LF:=zK [] ⟨(.isl .u8)::dr 4 ((.int .i64)::dr 22 []),[]⟩ [(.ret,⟨dr 4 ((.int .i64)::dr 23 []),[]⟩),(.exit 0,⟨dr 28 [],[]⟩)] (lsT [(.l .u8),.i] (fun x=>jR N N x.1 x.2.1) fun R o κ=>(zi o (fun a6=>κ 0 [.i a6]) (fun b7=>κ 1 [])))
theorem zga(N:Nat):Lp Tryz.f112 [1,0,1,2] (zct N):=qW zT (K29 N) .auto .nil [(.l .u8),.i] [[.i],[]] (fun m x=>jR N m x.1 x.2.1) ⟨fun x=>(Sum.inl x.1),fun _=>(Sum.inr ()),()⟩ N
def zxZ(N:Nat):FT:=(112,qE [(.sl .u8),(.int .i64)] [(.int .i64)] fun x=>zb6 N x.1 x.2.1)::(T29 N)
theorem zxA(N:Nat):AT (zxZ N):=fnA zT (K29 N) (.two .auto (.two (.two .auto (.one (.by_ (zct N)))) .auto)) Tryz.func112 (.cons (zga N) .nil)
def kM(N:Nat):LF:=zK [] ⟨(.isl .u8)::dr 3 ((.int .i64)::(.int .i64)::dr 60 []),[]⟩ [(.exit 0,⟨(.isl .u8)::dr 3 ((.int .i64)::(.int .i64)::dr 60 []),[]⟩)] (lsT [(.l .u8),.i,.i] (fun x=>qg N N x.1 x.2.1 x.2.2.1) fun R o κ=>κ 0 [.l .u8 o.1,.i o.2.1,.i o.2.2])
theorem zcH(N:Nat):Lp Tryz.f113 [1,1,1,1,0,2] (kM N):=qW zT (zxA N) .auto .nil [(.l .u8),.i,.i] [[(.l .u8),.i,.i]] (fun m x=>qg N m x.1 x.2.1 x.2.2.1) ⟨fun x=>(x.1,x.2.1,x.2.2.1),()⟩ N
def zx0(N:Nat):FT:=(113,qE [(.sl .u8)] [(.int .i64),.bool] fun x=>wm N x.1)::(zxZ N)
theorem zxB(N:Nat):AT (zx0 N):=fnA zT (zxA N) (.two .auto (.two .auto (.two .auto (.two .auto (.two (.one (.by_ (kM N))) .auto))))) Tryz.func113 (.cons (zcH N) .nil)
def xu(N:Nat):LF:=zK [(4,(.pair (.int .i64) (.sl .u8)))] ⟨(.isl .u8)::dr 3 ((.gs 0 1)::(.int .i64)::dr 71 []),[.seq (.pair (.int .i64) (.sl .u8)) 1 0 false]⟩ [(.ret,⟨.drop::.drop::(.gs 0 1)::(.int .i64)::dr 73 [],[.seq (.pair (.int .i64) (.sl .u8)) 1 0 false]⟩),(.exit 0,⟨dr 4 ((.gs 0 1)::dr 72 []),[.seq (.pair (.int .i64) (.sl .u8)) 1 0 false]⟩)] (lsT [(.l .u8),.i,(.l (.pair (.int .i64) (.sl .u8)))] (fun x=>qj N N x.1 x.2.1 x.2.2.1) fun R o κ=>(zi o (fun a22=>κ 0 [.i a22.1,.l (.pair (.int .i64) (.sl .u8)) a22.2]) (fun b23=>κ 1 [.l (.pair (.int .i64) (.sl .u8)) b23])))
theorem zcR(N:Nat):Lp Tryz.f72 [1,1,1,0,2] (xu N):=qW zT (zxB N) .auto .nil [(.l .u8),.i,(.l (.pair (.int .i64) (.sl .u8)))] [[.i,(.l (.pair (.int .i64) (.sl .u8)))],[(.l (.pair (.int .i64) (.sl .u8)))]] (fun m x=>qj N m x.1 x.2.1 x.2.2.1) ⟨fun x=>(Sum.inl (x.1,x.2.1)),fun x=>(Sum.inr x.1),()⟩ N
def T72(N:Nat):FT:=(72,qE [(.sl .u8)] [(.sl (.pair (.int .i64) (.sl .u8))),(.int .i64)] fun x=>kr N x.1)::(zx0 N)
theorem K72(N:Nat):AT (T72 N):=fnA zT (zxB N) (.two .auto (.two .auto (.two .auto (.two (.one (.by_ (xu N))) .auto)))) Tryz.func72 (.cons (zcR N) .nil)
def zaB(N:Nat):LF:=zK [(4,(.pair (.int .i64) (.sl .u8)))] ⟨(.isl .u8)::dr 3 ((.gs 0 1)::dr 18 []),[.seq (.pair (.int .i64) (.sl .u8)) 1 0 false]⟩ [(.ret,⟨.drop::.drop::(.gs 0 1)::(.int .i64)::dr 19 [],[.seq (.pair (.int .i64) (.sl .u8)) 1 0 false]⟩)] (lsT [(.l .u8),(.l (.pair (.int .i64) (.sl .u8)))] (fun x=>qI N N x.1 x.2.1) fun R o κ=>κ 0 [.i o.1,.l (.pair (.int .i64) (.sl .u8)) o.2])
theorem zdL(N:Nat):Lp Tryz.f32 [1,1,2] (zaB N):=qW zT (K72 N) .auto .nil [(.l .u8),(.l (.pair (.int .i64) (.sl .u8)))] [[.i,(.l (.pair (.int .i64) (.sl .u8)))]] (fun m x=>qI N m x.1 x.2.1) ⟨fun x=>(x.1,x.2.1),()⟩ N
def T32(N:Nat):FT:=(32,qE [(.sl .u8)] [(.sl (.pair (.int .i64) (.sl .u8))),(.int .i64)] fun x=>zaa N x.1)::(T72 N)
theorem K32(N:Nat):AT (T32 N):=fnA zT (K72 N) (.two .auto (.two .auto (.one (.by_ (zaB N))))) Tryz.func32 (.cons (zdL N) .nil)
def zas(N:Nat):LF:=zK [(6,uK2)] ⟨dr 6 ((.gs 0 1)::dr 11 ((.isl (.pair (.int .i64) (.sl .u8)))::(.int .i64)::(.int .i64)::dr 25 [])),[.seq uK2 1 0 false]⟩ [(.ret,⟨.drop::.drop::(.cst .qB)::(.cst (.bool false))::dr 42 [],[.seq uK2 1 0 false]⟩),(.exit 0,⟨dr 6 ((.gs 0 1)::dr 39 []),[.seq uK2 1 0 false]⟩)] (lsT [(.l (.pair (.int .i64) (.sl .u8))),.i,.i,(.l uK2)] (fun x=>qF N N x.1 x.2.1 x.2.2.1 x.2.2.2.1) fun R o κ=>(zi o (fun a22=>κ 0 [.l uK2 a22]) (fun b23=>κ 1 [.l uK2 b23])))
theorem zdF(N:Nat):Lp Tryz.f18 [1,1,1,1,0,1,2] (zas N):=qW zT (K32 N) .auto .nil [(.l (.pair (.int .i64) (.sl .u8))),.i,.i,(.l uK2)] [[(.l uK2)],[(.l uK2)]] (fun m x=>qF N m x.1 x.2.1 x.2.2.1 x.2.2.2.1) ⟨fun x=>(Sum.inl x.1),fun x=>(Sum.inr x.1),()⟩ N
def T18(N:Nat):FT:=(18,qE [(.sl .u8)] [(.sl uK2),.bool] fun x=>xY N x.1)::(T32 N)
theorem K18(N:Nat):AT (T18 N):=fnA zT (K32 N) (.two .auto (.two .auto (.two .auto (.two .auto (.two (.two .auto (.one (.by_ (zas N)))) .auto))))) Tryz.func18 (.cons (zdF N) .nil)
def zbd(N:Nat):LF:=zK [(6,uK2)] ⟨dr 4 ((.isl (.pair (.int .i64) (.sl .u8)))::(.int .i64)::(.gs 0 1)::(.int .i64)::dr 45 []),[.seq uK2 1 0 false]⟩ [(.ret,⟨.drop::.drop::(.cst .qB)::(.cst (.bool false))::dr 49 [],[.seq uK2 1 0 false]⟩),(.exit 0,⟨dr 5 ((.int .i64)::(.gs 0 1)::dr 46 []),[.seq uK2 1 0 false]⟩)] (lsT [(.l (.pair (.int .i64) (.sl .u8))),.i,.i,(.l uK2)] (fun x=>jh N N x.1 x.2.1 x.2.2.1 x.2.2.2.1) fun R o κ=>(zi o (fun a22=>κ 0 [.l uK2 a22]) (fun b23=>κ 1 [.i b23.1,.l uK2 b23.2])))
theorem zem(N:Nat):Lp Tryz.f19 [1,1,1,0,1,2] (zbd N):=qW zT (K18 N) .auto .nil [(.l (.pair (.int .i64) (.sl .u8))),.i,.i,(.l uK2)] [[(.l uK2)],[.i,(.l uK2)]] (fun m x=>jh N m x.1 x.2.1 x.2.2.1 x.2.2.2.1) ⟨fun x=>(Sum.inl x.1),fun x=>(Sum.inr (x.1,x.2.1)),()⟩ N
def T19(N:Nat):FT:=(19,qE [(.sl .u8)] [(.sl uK2),.bool] fun x=>zbc N x.1)::(T18 N)
theorem K19(N:Nat):AT (T19 N):=fnA zT (K18 N) (.two .auto (.two .auto (.two .auto (.two (.two .auto (.one (.by_ (zbd N)))) .auto)))) Tryz.func19 (.cons (zem N) .nil)
def zbD(N:Nat):LF:=zK [] ⟨(.isl uK2)::(.isl uK2)::dr 3 ((.int .i64)::dr 21 []),[]⟩ [(.ret,⟨dr 4 ((.cst (.bool false))::dr 22 []),[]⟩),(.exit 0,⟨dr 27 [],[]⟩)] (lsT [(.l uK2),(.l uK2),.i] (fun x=>jv N N x.1 x.2.1 x.2.2.1) fun R o κ=>(zi o (fun a12=>κ 0 []) (fun b13=>κ 1 [])))
theorem zfa(N:Nat):Lp Tryz.f20 [1,1,0,1,2] (zbD N):=qW zT (K19 N) .auto .nil [(.l uK2),(.l uK2),.i] [[],[]] (fun m x=>jv N m x.1 x.2.1 x.2.2.1) ⟨fun _=>(Sum.inl ()),fun _=>(Sum.inr ()),()⟩ N
def T20(N:Nat):FT:=(20,qE [(.sl uK2),(.sl uK2)] [.bool] fun x=>kh N x.1 x.2.1)::(T19 N)
theorem K20(N:Nat):AT (T20 N):=fnA zT (K19 N) (.two .auto (.two .auto (.two (.two .auto (.one (.by_ (zbD N)))) .auto))) Tryz.func20 (.cons (zfa N) .nil)
def jU(N:Nat):FT:=(T20 N)
theorem zcG(N:Nat):zli Tryz.prog glA (zgA (jU N)) hkA:=ztH zT rfl (K20 N)
def jV(N:Nat):Pl:=.auto
theorem zcQ(N:Nat)(x:El (zbp [(.sl .u8)])):xJ Tryz.prog glA (zgA (jU N)) 1500 (jV N) 6 (jD [(.sl .u8)] x) [] (zcJ [.bool])=qL N x.1:=by kernel_rfl
theorem zcP(N:Nat):∀ fn b,Tryz.prog.funcs[6]?=some fn->fn.body=some b->wE Tryz.prog glA hkA (jV N) b:=zhd Tryz.func6 (by kernel_rfl) .nil
end Go.Proofs.YtlfojfedfhpoiaaGreatDoor
