/- The functions of the law: their models, and that the program does what they say. -/
import Derived.Test.YtjojhgpaaocnoaaGreatDoorSqHp
import Derived.Test.YtjojhgpaaocnoaaGreatDoorB5
import Derived.Test.YtjojhgpaaocnoaaGreatDoorB6
set_option linter.unusedVariables false
set_option linter.unusedSimpArgs false
set_option maxRecDepth 100000
namespace Go.Proofs.YtjojhgpaaocnoaaGreatDoor
open Go.Proofs.Model Go Go.Gx Go.Mx Go.Sx
def gn:Nat->List PB->List PB|0,l=>l|n+1,l=>.gone::gn n l
def hkA:qc:=zl (zl (zl (zl (zl (zl (zl (zgd tab) 4 zlz) 7 wF) 11 (wT 25)) 30 (za8 9)) 42 zbO) 138 zcZ) 354 zin
theorem k8:zmX Tryz.prog hkA [354,138,42,30,11,7,4]:=ku (ku (ku (ku (ku (ku (ku (zlS (by kernel_rfl)) 4 zlz) 7 _) 11 _) 30 _) 42 _) 138 _) 354 _
abbrev AT(T:FT):Prop:=zlB Tryz.prog glA hkA T
abbrev Lp(fn:Func)(p:List Nat)(g:LF):Prop:=zjb Tryz.prog glA hkA (.loop (roundOf fn p)) g
def T0:FT:=[(4,zbe [] [.bool] fun _=>some (true,())),(7,zhc),(11,zgi),(30,zk3),(42,zjQ),(138,zkq),(354,znY),(17,zhE),(38,zoF),(67,zhE),(72,zhH),(100,zhH)]
theorem K0:zlB Tryz.prog glA hkA T0:=⟨zlA rfl,zeI rfl,zd5 rfl,zf1 rfl,zfh rfl,zfL rfl,zgE rfl,zbJ rfl,zg6 rfl,zbJ rfl,zbK rfl,zbK rfl,trivial⟩
def T95(N:Nat):FT:=(95,zbe [(.int .i64)] [.str] fun x=>qU N x.1)::T0
theorem K95(N:Nat):AT (T95 N):=fnA k8 K0 .auto Tryz.func95 .nil
def zrf(N:Nat):FT:=(114,zbe [(.int .u64)] [(.int .i64)] fun x=>qx N x.1)::(T95 N)
theorem zrq(N:Nat):AT (zrf N):=fnA k8 (K95 N) .auto Tryz.func114 .nil
def zre(N:Nat):FT:=(113,zbe [(.int .i64)] [(.int .i64)] fun x=>qL N x.1)::(zrf N)
theorem zrp(N:Nat):AT (zre N):=fnA k8 (zrq N) .auto Tryz.func113 .nil
def zrg(N:Nat):FT:=(115,zbe [.bool] [(.int .i64)] fun x=>qK N x.1)::(zre N)
theorem zrr(N:Nat):AT (zrg N):=fnA k8 (zrp N) .auto Tryz.func115 .nil
def T96(N:Nat):FT:=(96,zbe [(.int .u64)] [(.int .i64)] fun x=>zf N x.1)::(zrg N)
theorem K96(N:Nat):AT (T96 N):=fnA k8 (zrr N) .auto Tryz.func96 .nil
def wj(N:Nat):LF:=qW [] ⟨(.sl 0 0 false)::(.int .u64)::.drop::.drop::(.int .i64)::dr 162 [],[.seq .u8 0 0 true]⟩ [(.exit 0,⟨(.sl 0 0 false)::(.int .u64)::.drop::.drop::(.int .i64)::dr 162 [],[.seq .u8 0 0 true]⟩)] (lsT [.n,.n,.i,.i,(.l .u8)] (fun x=>zd N N x.1 x.2.1 x.2.2.1 x.2.2.2.1 x.2.2.2.2.1) fun R o κ=>κ 0 [.n o.1,.n o.2.1,.i o.2.2.1,.i o.2.2.2.1,.l .u8 o.2.2.2.2])
theorem zad(N:Nat):Lp Tryz.f97 [1,0,2] (wj N):=zap k8 (K96 N) .auto .nil [.n,.n,.i,.i,(.l .u8)] [[.n,.n,.i,.i,(.l .u8)]] (fun m x=>zd N m x.1 x.2.1 x.2.2.1 x.2.2.2.1 x.2.2.2.2.1) ⟨fun x=>(x.1,x.2.1,x.2.2.1,x.2.2.2.1,x.2.2.2.2.1),()⟩ N
def T39(N:Nat):FT:=(39,zbe [(.int .i64)] [.str] fun x=>zA N x.1)::(T96 N)
theorem K39(N:Nat):AT (T39 N):=fnA k8 (K96 N) (.two .auto (.two (.cal 1 64 (.two .auto (.two (.two .auto (.two (.two .auto (.two .auto (.two .auto (.two .auto (.two .auto (.two (.cal 4 97 (.two .auto (.two (.one (.by_ (wj N))) .auto)) .auto) .auto)))))) .auto)) .auto)) .auto) .auto)) Tryz.func39 (.cons (zad N) .nil)
def T22(N:Nat):FT:=(22,zbe [(.int .i64)] [.str] fun x=>qp N x.1)::(T39 N)
theorem K22(N:Nat):AT (T22 N):=fnA k8 (K39 N) .auto Tryz.func22 .nil
def jU(N:Nat):LF:=qW [] ⟨dr 3 ((.ptr 0 0 2)::.drop::.drop::(.isl (.int .i64))::(.int .i64)::(.int .i64)::dr 9 []),[.cells [(.ptr 0 0 2),(.gs 1 393217)] 0 (some 36),.seq .u8 393217 0 false]⟩ [(.exit 0,⟨dr 3 ((.ptr 0 0 2)::dr 14 []),[.cells [(.ptr 0 0 2),(.gs 1 393217)] 0 (some 36),.seq .u8 393217 0 false]⟩)] (lsT [(.l (.int .i64)),.i,.i,(.l .u8)] (fun x=>zK N N x.1 x.2.1 x.2.2.1 x.2.2.2.1) fun R o κ=>κ 0 [.l .u8 o])
theorem xO(N:Nat):Lp Tryz.f10 [1,1,0,1,2] (jU N):=zap k8 (K22 N) .auto .nil [(.l (.int .i64)),.i,.i,(.l .u8)] [[(.l .u8)]] (fun m x=>zK N m x.1 x.2.1 x.2.2.1 x.2.2.2.1) ⟨fun x=>x.1,()⟩ N
def T10(N:Nat):FT:=(10,zbe [(.sl (.int .i64))] [.str] fun x=>zz N x.1)::(T22 N)
theorem K10(N:Nat):AT (T10 N):=fnA k8 (K22 N) (.two .auto (.two .auto (.two (.two .auto (.one (.two .auto (.by_ (jU N))))) .auto))) Tryz.func10 (.cons (xO N) .nil)
def T45(N:Nat):FT:=(45,zbe [.u8] [.bool] fun x=>kg N x.1)::(T10 N)
theorem K45(N:Nat):AT (T45 N):=fnA k8 (K10 N) .auto Tryz.func45 .nil
def jI(N:Nat):LF:=qW [] ⟨dr 4 ((.ptr 0 0 2)::(.fn 43 [] [(.ptr 0 0 2)])::dr 5 ((.ul .u8)::(.int .i64)::(.int .i64)::dr 21 [])),[.cells [(.ptr 0 0 2),(.gs 2 393217)] 0 (some 36),.gone,.seq .u8 393217 0 false]⟩ [(.ret,⟨.drop::.drop::(.cst (.str ([]:List UInt8)))::(.cst (.bool false))::dr 31 [],[.cells [(.ptr 0 0 2),(.gs 2 393217)] 0 (some 36),.gone,.seq .u8 393217 0 false]⟩),(.exit 0,⟨dr 4 ((.ptr 0 0 2)::(.fn 43 [] [(.ptr 0 0 2)])::dr 29 []),[.cells [(.ptr 0 0 2),(.gs 2 393217)] 0 (some 36),.gone,.seq .u8 393217 0 false]⟩)] (lsT [(.l .u8),.i,.i,(.l .u8)] (fun x=>zF N N x.1 x.2.1 x.2.2.1 x.2.2.2.1) fun R o κ=>(zbG o (fun a21=>κ 0 [.l .u8 a21]) (fun b22=>κ 1 [.l .u8 b22])))
theorem xI(N:Nat):Lp Tryz.f24 [1,1,1,1,0,1,2] (jI N):=zap k8 (K45 N) .auto .nil [(.l .u8),.i,.i,(.l .u8)] [[(.l .u8)],[(.l .u8)]] (fun m x=>zF N m x.1 x.2.1 x.2.2.1 x.2.2.2.1) ⟨fun x=>(Sum.inl x.1),fun x=>(Sum.inr x.1),()⟩ N
def T24(N:Nat):FT:=(24,zbe [(.slc .u8)] [.str,.bool] fun x=>jn N x.1)::(T45 N)
theorem K24(N:Nat):AT (T24 N):=fnA k8 (K45 N) (.two .auto (.two .auto (.two .auto (.two .auto (.two (.two .auto (.one (.by_ (jI N)))) .auto))))) Tryz.func24 (.cons (xI N) .nil)
def jS(N:Nat):LF:=qW [] ⟨dr 5 ((.gs 0 1)::dr 13 ((.ul .u8)::(.int .i64)::(.int .i64)::dr 16 [])),[.seq .u8 1 0 false]⟩ [(.exit 0,⟨dr 5 ((.gs 0 1)::dr 32 []),[.seq .u8 1 0 false]⟩)] (lsT [(.l .u8),.i,.i,(.l .u8)] (fun x=>zJ N N x.1 x.2.1 x.2.2.1 x.2.2.2.1) fun R o κ=>κ 0 [.l .u8 o])
theorem xN(N:Nat):Lp Tryz.f12 [1,1,1,0,1,2] (jS N):=zap k8 (K24 N) .auto .nil [(.l .u8),.i,.i,(.l .u8)] [[(.l .u8)]] (fun m x=>zJ N m x.1 x.2.1 x.2.2.1 x.2.2.2.1) ⟨fun x=>x.1,()⟩ N
def T12(N:Nat):FT:=(12,zbe [(.slc .u8)] [.str] fun x=>qF N x.1)::(T24 N)
theorem K12(N:Nat):AT (T12 N):=fnA k8 (K24 N) (.two .auto (.two .auto (.two .auto (.two (.two .auto (.one (.by_ (jS N)))) .auto)))) Tryz.func12 (.cons (xN N) .nil)
def jx(N:Nat):LF:=qW [] ⟨.drop::(.isl (.int .i64))::dr 3 ((.ptr 0 0 2)::dr 6 ((.isl (.sl .u8))::(.int .i64)::(.cst (.int .i64 (0:Int)))::dr 26 ((.sl 4 0 false)::(.int .i64)::(.int .i64)::dr 14 []))),[.cells [(.ptr 0 0 2),(.gs 2 393217)] 0 (some 36),.gone,.seq .u8 393217 0 false,.gone,.seq (.slc .u8) 0 0 true]⟩ [(.exit 2,⟨.drop::(.isl (.int .i64))::dr 3 ((.ptr 0 0 2)::dr 6 ((.isl (.sl .u8))::(.int .i64)::(.cst (.int .i64 (0:Int)))::dr 43 [])),[.cells [(.ptr 0 0 2),(.gs 2 393217)] 0 (some 36),.gone,.seq .u8 393217 0 false,.gone,.seq (.slc .u8) 0 0 true]⟩)] (lsT [(.l (.int .i64)),(.l (.sl .u8)),.i,.n,.n,.i,.i,(.l .u8),(.l (.slc .u8))] (fun x=>zr N N x.1 x.2.1 x.2.2.1 x.2.2.2.1 x.2.2.2.2.1 x.2.2.2.2.2.1 x.2.2.2.2.2.2.1 x.2.2.2.2.2.2.2.1 x.2.2.2.2.2.2.2.2.1) fun R o κ=>κ 0 [.l (.int .i64) o.1,.l (.sl .u8) o.2.1,.i o.2.2.1,.l .u8 o.2.2.2.1,.l (.slc .u8) o.2.2.2.2])
def jf(N:Nat):LF:=qW [] ⟨.drop::(.isl (.int .i64))::dr 3 ((.ptr 0 0 2)::dr 6 ((.isl (.sl .u8))::(.int .i64)::(.int .i64)::dr 26 ((.sl 7 0 false)::(.int .i64)::(.int .i64)::dr 14 []))),(.cells [(.ptr 0 0 2),(.gs 2 393220)] 0 (some 36)::.gone::.seq .u8 393220 0 false::(gn 4 [.seq (.slc .u8) 0 0 true]))⟩ [(.exit 2,⟨.drop::(.isl (.int .i64))::dr 3 ((.ptr 0 0 2)::dr 6 ((.isl (.sl .u8))::(.int .i64)::(.int .i64)::dr 43 [])),(.cells [(.ptr 0 0 2),(.gs 2 393220)] 0 (some 36)::.gone::.seq .u8 393220 0 false::(gn 4 [.seq (.slc .u8) 0 0 true]))⟩)] (lsT [(.l (.int .i64)),(.l (.sl .u8)),.i,.i,.n,.n,.i,.i,(.l .u8),(.l (.slc .u8))] (fun x=>zp N N x.1 x.2.1 x.2.2.1 x.2.2.2.1 x.2.2.2.2.1 x.2.2.2.2.2.1 x.2.2.2.2.2.2.1 x.2.2.2.2.2.2.2.1 x.2.2.2.2.2.2.2.2.1 x.2.2.2.2.2.2.2.2.2.1) fun R o κ=>κ 0 [.l (.int .i64) o.1,.l (.sl .u8) o.2.1,.i o.2.2.1,.i o.2.2.2.1,.l .u8 o.2.2.2.2.1,.l (.slc .u8) o.2.2.2.2.2])
def jd(N:Nat):LF:=qW [] ⟨.drop::(.isl (.int .i64))::dr 3 ((.ptr 0 0 2)::dr 6 ((.isl (.sl .u8))::(.int .i64)::(.int .i64)::dr 43 [])),[.cells [(.ptr 0 0 2),(.gs 2 393218)] 0 (some 36),.gone,.seq .u8 393218 0 false,.gone,.gone]⟩ [(.exit 0,⟨.drop::(.isl (.int .i64))::dr 3 ((.ptr 0 0 2)::dr 52 []),[.cells [(.ptr 0 0 2),(.gs 2 393218)] 0 (some 36),.gone,.seq .u8 393218 0 false,.gone,.gone]⟩)] (lsT [(.l (.int .i64)),(.l (.sl .u8)),.i,.i,(.l .u8)] (fun x=>zi N N x.1 x.2.1 x.2.2.1 x.2.2.2.1 x.2.2.2.2.1) fun R o κ=>κ 0 [.l (.int .i64) o.1,.l .u8 o.2])
theorem kQ(N:Nat):Lp Tryz.f5 [1,1,0,1,2,2,1,1,0,2,1,1,1,1,1,2] (jx N):=zap k8 (K12 N) .auto .nil [(.l (.int .i64)),(.l (.sl .u8)),.i,.n,.n,.i,.i,(.l .u8),(.l (.slc .u8))] [[(.l (.int .i64)),(.l (.sl .u8)),.i,(.l .u8),(.l (.slc .u8))]] (fun m x=>zr N m x.1 x.2.1 x.2.2.1 x.2.2.2.1 x.2.2.2.2.1 x.2.2.2.2.2.1 x.2.2.2.2.2.2.1 x.2.2.2.2.2.2.2.1 x.2.2.2.2.2.2.2.2.1) ⟨fun x=>(x.1,x.2.1,x.2.2.1,x.2.2.2.1,x.2.2.2.2.1),()⟩ N
theorem kN(N:Nat):Lp Tryz.f5 [1,1,0,1,2,2,1,1,0,2,1,1,1,1,1,2] (jf N):=zap k8 (K12 N) .auto .nil [(.l (.int .i64)),(.l (.sl .u8)),.i,.i,.n,.n,.i,.i,(.l .u8),(.l (.slc .u8))] [[(.l (.int .i64)),(.l (.sl .u8)),.i,.i,(.l .u8),(.l (.slc .u8))]] (fun m x=>zp N m x.1 x.2.1 x.2.2.1 x.2.2.2.1 x.2.2.2.2.1 x.2.2.2.2.2.1 x.2.2.2.2.2.2.1 x.2.2.2.2.2.2.2.1 x.2.2.2.2.2.2.2.2.1 x.2.2.2.2.2.2.2.2.2.1) ⟨fun x=>(x.1,x.2.1,x.2.2.1,x.2.2.2.1,x.2.2.2.2.1,x.2.2.2.2.2.1),()⟩ N
theorem kM(N:Nat):Lp Tryz.f5 [1,1,0,1,2] (jd N):=zap k8 (K12 N) (.two .auto (.two .auto (.two (.one (.two .auto (.two .auto (.two .auto (.two .auto (.two .auto (.one (.by_ (jf N))))))))) .auto))) (.cons (kN N) .nil) [(.l (.int .i64)),(.l (.sl .u8)),.i,.i,(.l .u8)] [[(.l (.int .i64)),(.l .u8)]] (fun m x=>zi N m x.1 x.2.1 x.2.2.1 x.2.2.2.1 x.2.2.2.2.1) ⟨fun x=>(x.1,x.2.1),()⟩ N
def T5(N:Nat):FT:=(5,zbe [(.sl (.sl .u8)),(.sl (.int .i64))] [.str] fun x=>qT N x.1 x.2.1)::(T12 N)
theorem K5(N:Nat):AT (T5 N):=fnA k8 (K12 N) (.two .auto (.two .auto (.two (.two .auto (.one (.two (.two .auto (.two .auto (.two (.one (.two .auto (.two .auto (.two .auto (.two .auto (.two .auto (.one (.by_ (jx N))))))))) .auto))) (.by_ (jd N))))) .auto))) Tryz.func5 (.cons (kQ N) (.cons (kM N) .nil))
def jK(N:Nat):LF:=qW [] ⟨(.int .u32)::.drop::.drop::.str::dr 18 [],[]⟩ [(.exit 0,⟨(.int .u32)::.drop::.drop::.str::dr 18 [],[]⟩)] (lsT [.i,.s] (fun x=>zG N N x.1 x.2.1) fun R o κ=>κ 0 [.i o.1,.s o.2])
theorem xJ(N:Nat):Lp Tryz.f25 [1,1,0,2] (jK N):=zap k8 (K5 N) .auto .nil [.i,.s] [[.i,.s]] (fun m x=>zG N m x.1 x.2.1) ⟨fun x=>(x.1,x.2.1),()⟩ N
def T25(N:Nat):FT:=(25,zbe [(.int .u32)] [.str] fun x=>qR N x.1)::(T5 N)
theorem K25(N:Nat):AT (T25 N):=fnA k8 (K5 N) (.two .auto (.two .auto (.two (.one (.by_ (jK N))) .auto))) Tryz.func25 (.cons (xJ N) .nil)
def T14(N:Nat):FT:=(14,zbe [(.int .i64)] [.str] fun x=>wi N x.1)::(T25 N)
theorem K14(N:Nat):AT (T14 N):=fnA k8 (K25 N) .auto Tryz.func14 .nil
def T46(N:Nat):FT:=(46,zbe [.u8] [.bool] fun x=>jw N x.1)::(T14 N)
theorem K46(N:Nat):AT (T46 N):=fnA k8 (K14 N) .auto Tryz.func46 .nil
def wg(N:Nat):LF:=qW [] ⟨(.isl .u8)::dr 3 (.str::(.int .i64)::dr 36 []),[]⟩ [(.ret,⟨.drop::.drop::(.cst (.str ([]:List UInt8)))::(.cst (.bool false))::dr 38 [],[]⟩),(.exit 0,⟨dr 4 (.str::dr 37 []),[]⟩)] (lsT [(.l .u8),.s,.i] (fun x=>zP N N x.1 x.2.1 x.2.2.1) fun R o κ=>(zbG o (fun a11=>κ 0 []) (fun b12=>κ 1 [.s b12])))
theorem zab(N:Nat):Lp Tryz.f26 [1,1,0,1,2] (wg N):=zap k8 (K46 N) .auto .nil [(.l .u8),.s,.i] [[],[.s]] (fun m x=>zP N m x.1 x.2.1 x.2.2.1) ⟨fun _=>(Sum.inl ()),fun x=>(Sum.inr x.1),()⟩ N
def T26(N:Nat):FT:=(26,zbe [(.sl .u8)] [.str,.bool] fun x=>jo N x.1)::(T46 N)
theorem K26(N:Nat):AT (T26 N):=fnA k8 (K46 N) (.two .auto (.two .auto (.two (.two .auto (.one (.by_ (wg N)))) .auto))) Tryz.func26 (.cons (zab N) .nil)
def kJ(N:Nat):LF:=qW [] ⟨(.isl .u8)::.drop::.drop::.str::(.int .i64)::dr 34 [],[]⟩ [(.exit 0,⟨dr 3 (.str::dr 35 []),[]⟩)] (lsT [(.l .u8),.s,.i] (fun x=>qe N N x.1 x.2.1 x.2.2.1) fun R o κ=>κ 0 [.s o])
theorem zb3(N:Nat):Lp Tryz.f27 [1,1,0,1,2] (kJ N):=zap k8 (K26 N) .auto .nil [(.l .u8),.s,.i] [[.s]] (fun m x=>qe N m x.1 x.2.1 x.2.2.1) ⟨fun x=>x.1,()⟩ N
def T27(N:Nat):FT:=(27,zbe [(.sl .u8)] [.str] fun x=>zac N x.1)::(T26 N)
theorem K27(N:Nat):AT (T27 N):=fnA k8 (K26 N) (.two .auto (.two .auto (.two (.two .auto (.one (.by_ (kJ N)))) .auto))) Tryz.func27 (.cons (zb3 N) .nil)
def T15(N:Nat):FT:=(15,zbe [(.sl .u8)] [.str] fun x=>qS N x.1)::(T27 N)
theorem K15(N:Nat):AT (T15 N):=fnA k8 (K27 N) .auto Tryz.func15 .nil
def jO(N:Nat):LF:=qW [] ⟨(.isl (.sl .u8))::(.isl (.int .i64))::dr 3 (.str::(.int .i64)::(.int .i64)::(.int .i64)::dr 90 []),[]⟩ [(.exit 2,⟨(.isl (.sl .u8))::(.isl (.int .i64))::dr 3 (.str::(.int .i64)::(.int .i64)::dr 91 []),[]⟩)] (lsT [(.l (.sl .u8)),(.l (.int .i64)),.s,.i,.i,.i] (fun x=>zB N N x.1 x.2.1 x.2.2.1 x.2.2.2.1 x.2.2.2.2.1 x.2.2.2.2.2.1) fun R o κ=>κ 0 [.l (.sl .u8) o.1,.l (.int .i64) o.2.1,.s o.2.2.1,.i o.2.2.2.1,.i o.2.2.2.2])
def jM(N:Nat):LF:=qW [] ⟨(.isl (.sl .u8))::(.isl (.int .i64))::dr 3 (.str::(.int .i64)::dr 92 []),[]⟩ [(.exit 0,⟨.drop::(.isl (.int .i64))::dr 3 (.str::dr 93 []),[]⟩)] (lsT [(.l (.sl .u8)),(.l (.int .i64)),.s,.i] (fun x=>zH N N x.1 x.2.1 x.2.2.1 x.2.2.2.1) fun R o κ=>κ 0 [.l (.int .i64) o.1,.s o.2])
def jQ(N:Nat):LF:=qW [] ⟨.drop::(.isl (.int .i64))::dr 3 (.str::dr 3 ((.int .i64)::dr 89 [])),[]⟩ [(.exit 4,⟨dr 5 (.str::dr 93 []),[]⟩)] (lsT [(.l (.int .i64)),.s,.i] (fun x=>zI N N x.1 x.2.1 x.2.2.1) fun R o κ=>κ 0 [.s o])
theorem xL(N:Nat):Lp Tryz.f6 [1,1,0,1,2,2,1,0,2,1,1,0,1,2] (jO N):=zap k8 (K15 N) .auto .nil [(.l (.sl .u8)),(.l (.int .i64)),.s,.i,.i,.i] [[(.l (.sl .u8)),(.l (.int .i64)),.s,.i,.i]] (fun m x=>zB N m x.1 x.2.1 x.2.2.1 x.2.2.2.1 x.2.2.2.2.1 x.2.2.2.2.2.1) ⟨fun x=>(x.1,x.2.1,x.2.2.1,x.2.2.2.1,x.2.2.2.2.1),()⟩ N
theorem xK(N:Nat):Lp Tryz.f6 [1,1,0,1,2] (jM N):=zap k8 (K15 N) (.two .auto (.two (.one (.two .auto (.two .auto (.two (.two .auto (.one (.by_ (jO N)))) .auto)))) .auto)) (.cons (xL N) .nil) [(.l (.sl .u8)),(.l (.int .i64)),.s,.i] [[(.l (.int .i64)),.s]] (fun m x=>zH N m x.1 x.2.1 x.2.2.1 x.2.2.2.1) ⟨fun x=>(x.1,x.2.1),()⟩ N
theorem xM(N:Nat):Lp Tryz.f6 [1,1,1,1,0,1,2] (jQ N):=zap k8 (K15 N) .auto .nil [(.l (.int .i64)),.s,.i] [[.s]] (fun m x=>zI N m x.1 x.2.1 x.2.2.1) ⟨fun x=>x.1,()⟩ N
def T6(N:Nat):FT:=(6,zbe [(.sl (.sl .u8)),(.sl (.int .i64))] [.str] fun x=>jq N x.1 x.2.1)::(T15 N)
theorem K6(N:Nat):AT (T6 N):=fnA k8 (K15 N) (.two .auto (.two .auto (.two (.two .auto (.one (.by_ (jM N)))) (.two .auto (.two (.two .auto (.one (.by_ (jQ N)))) .auto))))) Tryz.func6 (.cons (xK N) (.cons (xM N) .nil))
def ql(N:Nat):LF:=qW [] ⟨(.isl (.sl .u8))::(.isl (.int .u16))::dr 3 ((.int .i64)::dr 15 ((.isl (.sl .u8))::(.int .i64)::(.int .i64)::dr 43 [])),[]⟩ [(.exit 0,⟨(.isl (.sl .u8))::(.isl (.int .u16))::dr 3 ((.int .i64)::dr 61 []),[]⟩)] (lsT [(.l (.sl .u8)),(.l (.int .u16)),.i,(.l (.sl .u8)),.i,.i] (fun x=>zm N N x.1 x.2.1 x.2.2.1 x.2.2.2.1 x.2.2.2.2.1 x.2.2.2.2.2.1) fun R o κ=>κ 0 [.l (.sl .u8) o.1,.l (.int .u16) o.2.1,.i o.2.2])
def qn(N:Nat):LF:=qW [(8,(.int .i64))] ⟨(.isl (.sl .u8))::dr 7 ((.gs 0 1)::dr 26 ((.isl (.int .u16))::(.int .i64)::(.int .i64)::dr 29 [])),[.seq (.int .i64) 1 0 false]⟩ [(.exit 2,⟨(.isl (.sl .u8))::dr 7 ((.gs 0 1)::dr 58 []),[.seq (.int .i64) 1 0 false]⟩)] (lsT [(.l (.sl .u8)),(.l (.int .u16)),.i,.i,(.l (.int .i64))] (fun x=>zn N N x.1 x.2.1 x.2.2.1 x.2.2.2.1 x.2.2.2.2.1) fun R o κ=>κ 0 [.l (.sl .u8) o.1,.l (.int .i64) o.2])
theorem j9(N:Nat):Lp Tryz.f3 [1,1,1,0,1,2] (ql N):=zap k8 (K6 N) .auto .nil [(.l (.sl .u8)),(.l (.int .u16)),.i,(.l (.sl .u8)),.i,.i] [[(.l (.sl .u8)),(.l (.int .u16)),.i]] (fun m x=>zm N m x.1 x.2.1 x.2.2.1 x.2.2.2.1 x.2.2.2.2.1 x.2.2.2.2.2.1) ⟨fun x=>(x.1,x.2.1,x.2.2.1),()⟩ N
theorem wc(N:Nat):Lp Tryz.f3 [1,1,1,1,1,1,0,1,2] (qn N):=zap k8 (K6 N) .auto .nil [(.l (.sl .u8)),(.l (.int .u16)),.i,.i,(.l (.int .i64))] [[(.l (.sl .u8)),(.l (.int .i64))]] (fun m x=>zn N m x.1 x.2.1 x.2.2.1 x.2.2.2.1 x.2.2.2.2.1) ⟨fun x=>(x.1,x.2.1),()⟩ N
def zZ(N:Nat):FT:=(T6 N)
theorem wW(N:Nat):zmV Tryz.prog glA (zi0 (zZ N)) hkA:=zqH k8 rfl (K6 N)
def z6(N:Nat):Pl:=(.two .auto (.two .auto (.two .auto (.two (.two .auto (.one (.by_ (ql N)))) (.two .auto (.two .auto (.two (.two .auto (.one (.by_ (qn N)))) .auto)))))))
theorem ki(N:Nat)(x:El (zba [(.sl (.sl .u8)),(.sl (.int .u16))])):zaB Tryz.prog glA (zi0 (zZ N)) 1500 (z6 N) 3 (wk [(.sl (.sl .u8)),(.sl (.int .u16))] x) [] (zeA [.bool])=zy N x.1 x.2.1:=by kernel_rfl
theorem kh(N:Nat):∀ fn b,Tryz.prog.funcs[3]?=some fn->fn.body=some b->ji Tryz.prog glA hkA (z6 N) b:=zkt Tryz.func3 (by kernel_rfl) (.cons (j9 N) (.cons (wc N) .nil))
end Go.Proofs.YtjojhgpaaocnoaaGreatDoor
