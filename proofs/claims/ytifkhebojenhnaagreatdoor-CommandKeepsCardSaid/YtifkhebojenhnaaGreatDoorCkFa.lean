/- The functions of the law: their models, and that the program does what they say. -/
import Derived.Test.YtifkhebojenhnaaGreatDoorCkHp
import Derived.Test.YtifkhebojenhnaaGreatDoorB6
set_option linter.unusedVariables false
set_option linter.unusedSimpArgs false
set_option maxRecDepth 100000
namespace Go.Proofs.YtifkhebojenhnaaGreatDoor
open Go.Proofs.Model Go Go.Gx Go.Mx Go.Sx
def gn:Nat->List PB->List PB|0,l=>l|n+1,l=>.gone::gn n l
def hkA:ja:=ki (ki (ki (zo8 tab) 4 zsI) 97 (zgj 9)) 115 zg8
theorem qd:zo6 Tryz.prog hkA [115,97,4]:=zhJ (zhJ (zhJ (zpr (by kernel_rfl)) 4 zsI) 97 _) 115 _
abbrev AT(T:FT):Prop:=zjP Tryz.prog glA hkA T
abbrev Lp(fn:Func)(p:List Nat)(g:LF):Prop:=zjS Tryz.prog glA hkA (.loop (roundOf fn p)) g
def T0:FT:=[(4,jl [] [.bool] fun _=>some (true,())),(97,zoJ),(115,zn5),(41,zld),(117,zld),(128,zm3)]
theorem K0:zjP Tryz.prog glA hkA T0:=⟨zo4 rfl,zjE rfl,zjq rfl,zeG rfl,zeG rfl,ziF rfl,trivial⟩
def T18(N:Nat):FT:=(18,jl [(.sl .u8),.u8] [(.int .i64)] fun x=>qW N x.1 x.2.1)::T0
theorem K18(N:Nat):AT (T18 N):=fnA qd K0 .auto Tryz.func18 .nil
def T43(N:Nat):FT:=(43,jl [.u8] [.bool] fun x=>zbh N x.1)::(T18 N)
theorem K43(N:Nat):AT (T43 N):=fnA qd (K18 N) .auto Tryz.func43 .nil
def T20(N:Nat):FT:=(20,jl [.u8] [.bool] fun x=>zch N x.1)::(T43 N)
theorem K20(N:Nat):AT (T20 N):=fnA qd (K43 N) .auto Tryz.func20 .nil
def zaT(N:Nat):LF:=zU [] ⟨.drop::.str::(.ptr 0 0 1)::dr 4 ((.int .i64)::(.int .i64)::dr 10 []),[.cells [(.fn 20 [] [])] 0]⟩ [(.ret,⟨dr 4 ((.cst (.bool false))::dr 14 []),[.cells [(.fn 20 [] [])] 0]⟩),(.exit 0,⟨dr 19 [],[.cells [(.fn 20 [] [])] 0]⟩)] (lsT [.s,.i,.i] (fun x=>qZ N N x.1 x.2.1 x.2.2.1) fun R o κ=>(zl o (fun a16=>κ 0 []) (fun b17=>κ 1 [])))
theorem zd7(N:Nat):Lp Tryz.f42 [1,0,1,2] (zaT N):=jt qd (K20 N) .auto .nil [.s,.i,.i] [[],[]] (fun m x=>qZ N m x.1 x.2.1 x.2.2.1) ⟨fun _=>(Sum.inl ()),fun _=>(Sum.inr ()),()⟩ N
def T8(N:Nat):FT:=(8,jl [(.sl .u8)] [.str,(.int .i64),.bool] fun x=>zbk N x.1)::(T20 N)
theorem K8(N:Nat):AT (T8 N):=fnA qd (K20 N) (.two .auto (.two .auto (.two (.two (.cal 7 19 (.two .auto (.two (.cal 6 42 (.two .auto (.two (.two .auto (.one (.by_ (zaT N)))) .auto)) .auto) .auto)) .auto) .auto) .auto))) Tryz.func8 (.cons (zd7 N) .nil)
def zvr(N:Nat):FT:=(106,jl [.u8] [.bool] fun x=>kh N x.1)::(T8 N)
theorem zvl(N:Nat):AT (zvr N):=fnA qd (K8 N) .auto Tryz.func106 .nil
def wu(N:Nat):LF:=zU [(6597069832194,.u8)] ⟨(.ptr 0 0 3)::dr 55 [],[.cells [(.isl .u8),(.int .i64),(.gs 1 393217)] 0,.seq .u8 393217 0 false]⟩ [(.ret,⟨.drop::.drop::.bool::dr 53 [],[.cells [(.isl .u8),(.int .i64),(.gs 1 393217)] 0,.seq .u8 393217 0 false]⟩)] (lsT [(.l .u8),.i,(.l .u8)] (fun x=>zP N N x.1 x.2.1 x.2.2.1) fun R o κ=>κ 0 [.b o.1,.l .u8 o.2.1,.i o.2.2.1,.l .u8 o.2.2.2])
theorem zaO(N:Nat):Lp Tryz.f92 [1,1,2] (wu N):=jt qd (zvl N) .auto .nil [(.l .u8),.i,(.l .u8)] [[.b,(.l .u8),.i,(.l .u8)]] (fun m x=>zP N m x.1 x.2.1 x.2.2.1) ⟨fun x=>(x.1,x.2.1,x.2.2.1,x.2.2.2.1),()⟩ N
def T79(N:Nat):FT:=(79,jl [(.sl .u8),(.int .i64)] [(.sl .u8),(.int .i64),.bool] fun x=>jA N x.1 x.2.1)::(zvr N)
theorem K79(N:Nat):AT (T79 N):=fnA qd (zvl N) (.two .auto (.two (.cal 2 91 (.two .auto (.two .auto (.two (.two (.cal 2 92 (.two .auto (.two .auto (.one (.by_ (wu N))))) .auto) .auto) .auto))) .auto) .auto)) Tryz.func79 (.cons (zaO N) .nil)
def zvA(N:Nat):FT:=(144,jl [(.int .i64)] [.str] fun x=>wV N x.1)::(T79 N)
theorem zvW(N:Nat):AT (zvA N):=fnA qd (K79 N) .auto Tryz.func144 .nil
def zvD(N:Nat):FT:=(150,jl [(.int .u64)] [(.int .i64)] fun x=>jN N x.1)::(zvA N)
theorem zvY(N:Nat):AT (zvD N):=fnA qd (zvW N) .auto Tryz.func150 .nil
def zvC(N:Nat):FT:=(149,jl [(.int .i64)] [(.int .i64)] fun x=>wj N x.1)::(zvD N)
theorem zvX(N:Nat):AT (zvC N):=fnA qd (zvY N) .auto Tryz.func149 .nil
def zvE(N:Nat):FT:=(151,jl [.bool] [(.int .i64)] fun x=>wi N x.1)::(zvC N)
theorem zvZ(N:Nat):AT (zvE N):=fnA qd (zvX N) .auto Tryz.func151 .nil
def zvB(N:Nat):FT:=(145,jl [(.int .u64)] [(.int .i64)] fun x=>zv N x.1)::(zvE N)
theorem zvn(N:Nat):AT (zvB N):=fnA qd (zvZ N) .auto Tryz.func145 .nil
def xG(N:Nat):LF:=zU [] ⟨(.sl 0 0 false)::(.int .u64)::.drop::.drop::(.int .i64)::dr 162 [],[.seq .u8 0 0 true]⟩ [(.exit 0,⟨(.sl 0 0 false)::(.int .u64)::.drop::.drop::(.int .i64)::dr 162 [],[.seq .u8 0 0 true]⟩)] (lsT [.n,.n,.i,.i,(.l .u8)] (fun x=>zd N N x.1 x.2.1 x.2.2.1 x.2.2.2.1 x.2.2.2.2.1) fun R o κ=>κ 0 [.n o.1,.n o.2.1,.i o.2.2.1,.i o.2.2.2.1,.l .u8 o.2.2.2.2])
theorem zcK(N:Nat):Lp Tryz.f146 [1,0,2] (xG N):=jt qd (zvn N) .auto .nil [.n,.n,.i,.i,(.l .u8)] [[.n,.n,.i,.i,(.l .u8)]] (fun m x=>zd N m x.1 x.2.1 x.2.2.1 x.2.2.2.1 x.2.2.2.2.1) ⟨fun x=>(x.1,x.2.1,x.2.2.1,x.2.2.2.1,x.2.2.2.2.1),()⟩ N
def zvy(N:Nat):FT:=(116,jl [(.int .u32)] [.str] fun x=>zq N x.1)::(zvB N)
theorem zvU(N:Nat):AT (zvy N):=fnA qd (zvn N) (.two .auto (.two (.cal 2 125 (.two .auto (.two (.cal 2 138 (.two .auto (.two (.two .auto (.two (.two .auto (.two .auto (.two .auto (.two (.cal 3 146 (.two .auto (.two (.one (.by_ (xG N))) .auto)) .auto) .auto)))) .auto)) .auto)) .auto) .auto)) .auto) .auto)) Tryz.func116 (.cons (zcK N) .nil)
def zvs(N:Nat):FT:=(107,jl [.str] [(.int .u32),.bool] fun x=>wJ N x.1)::(zvy N)
theorem zvQ(N:Nat):AT (zvs N):=fnA qd (zvU N) .auto Tryz.func107 .nil
def zvt(N:Nat):FT:=(108,jl [(.sl .u8)] [(.sl .u8)] fun x=>qg N x.1)::(zvs N)
theorem zvR(N:Nat):AT (zvt N):=zwj qd (zvQ N) .auto Tryz.func108 .nil
def T80(N:Nat):FT:=(80,jl [(.sl .u8),(.int .i64)] [(.sl .u8),(.int .i64),.bool] fun x=>qw N x.1 x.2.1)::(zvt N)
theorem K80(N:Nat):AT (T80 N):=fnA qd (zvR N) .auto Tryz.func80 .nil
def zvu(N:Nat):FT:=(109,jl [.str,.u8] [(.int .i64)] fun x=>qm N x.1 x.2.1)::(T80 N)
theorem zvS(N:Nat):AT (zvu N):=fnA qd (K80 N) .auto Tryz.func109 .nil
def T94(N:Nat):FT:=(94,jl [.str,.u8] [(.int .i64)] fun x=>xQ N x.1 x.2.1)::(zvu N)
theorem K94(N:Nat):AT (T94 N):=fnA qd (zvS N) .auto Tryz.func94 .nil
def T81(N:Nat):FT:=(81,jl [.u8] [.bool] fun x=>kz N x.1)::(T94 N)
theorem K81(N:Nat):AT (T81 N):=fnA qd (K94 N) .auto Tryz.func81 .nil
def xe(N:Nat):LF:=zU [] ⟨(.ptr 0 0 2)::.drop::(.ptr 4 0 3)::.drop::(.int .i64)::dr 52 [],(.cells [(.isl .u8),(.int .i64)] 0::(gn 4 []))⟩ [(.exit 0,⟨(.ptr 0 0 2)::.drop::(.ptr 4 0 3)::.drop::(.int .i64)::dr 52 [],(.cells [(.isl .u8),(.int .i64)] 0::(gn 4 []))⟩)] (lsT [.i,(.l .u8),.i] (fun x=>qh N N x.1 x.2.1 x.2.2.1) fun R o κ=>κ 0 [.i o.1,.l .u8 o.2.1,.i o.2.2])
def k9(N:Nat):LF:=zU [(4,uS1)] ⟨dr 4 ((.gs 1 1)::(.ptr 0 0 2)::dr 26 []),[.cells [(.isl .u8),(.int .i64)] 0,.seq uS1 1 0 false]⟩ [(.ret,⟨.drop::.drop::(.gs 1 1)::(.cst (.int .i64 (-1:Int)))::dr 28 [],[.cells [(.isl .u8),(.int .i64)] 0,.seq uS1 1 0 false]⟩),(.ret,⟨.drop::.drop::(.cst .qp)::(.int .i64)::dr 28 [],[.cells [(.isl .u8),(.int .i64)] 0,.seq uS1 1 0 false]⟩)] (lsT [(.l .u8),.i,(.l uS1)] (fun x=>zH N N x.1 x.2.1 x.2.2.1) fun R o κ=>(zl o (fun a90=>κ 0 [.l .u8 a90.1,.i a90.2.1,.l uS1 a90.2.2]) (fun b91=>κ 1 [.i b91.1,.l .u8 b91.2.1,.i b91.2.2.1,.l uS1 b91.2.2.2])))
theorem zcA(N:Nat):Lp Tryz.f49 [1,1,0,2] (xe N):=jt qd (K81 N) .auto .nil [.i,(.l .u8),.i] [[.i,(.l .u8),.i]] (fun m x=>qh N m x.1 x.2.1 x.2.2.1) ⟨fun x=>(x.1,x.2.1,x.2.2.1),()⟩ N
theorem zcz(N:Nat):Lp Tryz.f11 [1,1,1,2] (k9 N):=jt qd (K81 N) (.one (.two .auto (.two (.cal 1 21 (.two .auto (.two .auto (.two .auto (.two .auto (.two .auto (.two (.cal 1 49 (.two .auto (.two .auto (.two (.one (.by_ (xe N))) .auto))) .auto) .auto)))))) .auto) .auto))) (.cons (zcA N) .nil) [(.l .u8),.i,(.l uS1)] [[(.l .u8),.i,(.l uS1)],[.i,(.l .u8),.i,(.l uS1)]] (fun m x=>zH N m x.1 x.2.1 x.2.2.1) ⟨fun x=>(Sum.inl (x.1,x.2.1,x.2.2.1)),fun x=>(Sum.inr (x.1,x.2.1,x.2.2.1,x.2.2.2.1)),()⟩ N
def T11(N:Nat):FT:=(11,jl [(.sl .u8)] [(.sl uS1),(.int .i64)] fun x=>ky N x.1)::(T81 N)
theorem K11(N:Nat):AT (T11 N):=fnA qd (K81 N) (.two .auto (.two .auto (.two .auto (.one (.by_ (k9 N)))))) Tryz.func11 (.cons (zcz N) .nil)
def jH(N:Nat):LF:=zU [] ⟨(.isl (.int .i64))::(.int .i64)::dr 5 ((.int .i64)::(.int .i64)::dr 10 []),[]⟩ [(.ret,⟨dr 4 ((.int .i64)::dr 14 []),[]⟩),(.exit 0,⟨dr 19 [],[]⟩)] (lsT [(.l (.int .i64)),.i,.i,.i] (fun x=>zG N N x.1 x.2.1 x.2.2.1 x.2.2.2.1) fun R o κ=>(zl o (fun a11=>κ 0 [.i a11]) (fun b12=>κ 1 [])))
theorem xO(N:Nat):Lp Tryz.f54 [1,0,1,2] (jH N):=jt qd (K11 N) .auto .nil [(.l (.int .i64)),.i,.i,.i] [[.i],[]] (fun m x=>zG N m x.1 x.2.1 x.2.2.1 x.2.2.2.1) ⟨fun x=>(Sum.inl x.1),fun _=>(Sum.inr ()),()⟩ N
def T54(N:Nat):FT:=(54,jl [(.sl (.int .i64)),(.int .i64)] [(.int .i64)] fun x=>qD N x.1 x.2.1)::(T11 N)
theorem K54(N:Nat):AT (T54 N):=fnA qd (K11 N) (.two .auto (.two (.two .auto (.one (.by_ (jH N)))) .auto)) Tryz.func54 (.cons (xO N) .nil)
def T25(N:Nat):FT:=(25,jl [(.sl (.int .i64)),(.int .i64)] [.bool] fun x=>za N x.1 x.2.1)::(T54 N)
theorem K25(N:Nat):AT (T25 N):=fnA qd (K54 N) .auto Tryz.func25 .nil
def zaM(N:Nat):LF:=zU [] ⟨(.fn 53 [] [])::(.ptr 1 0 1)::dr 3 ((.gs 0 0)::(.int .i64)::(.int .i64)::dr 11 []),[.seq .u8 0 0 true,.cells [(.gs 0 0)] 0]⟩ [(.exit 0,⟨dr 19 [],[.seq .u8 0 0 true,.cells [(.gs 0 0)] 0]⟩)] (lsT [.i,.i,(.l .u8)] (fun x=>qX N N x.1 x.2.1 x.2.2.1) fun R o κ=>κ 0 [.l .u8 o])
theorem zd5(N:Nat):Lp Tryz.f52 [1,2] (zaM N):=jt qd (K25 N) .auto .nil [.i,.i,(.l .u8)] [[(.l .u8)]] (fun m x=>qX N m x.1 x.2.1 x.2.2.1) ⟨fun x=>x.1,()⟩ N
def T24(N:Nat):FT:=(24,jl [.str] [.str] fun x=>jd N x.1)::(T25 N)
theorem K24(N:Nat):AT (T24 N):=fnA qd (K25 N) (.two .auto (.two .auto (.two .auto (.two (.cal 1 52 (.two .auto (.one (.by_ (zaM N)))) .auto) .auto)))) Tryz.func24 (.cons (zd5 N) .nil)
def qP(N:Nat):LF:=zU [] ⟨(.isl .str)::.str::dr 5 ((.int .i64)::(.int .i64)::dr 10 []),[]⟩ [(.ret,⟨dr 4 ((.int .i64)::dr 14 []),[]⟩),(.exit 0,⟨dr 19 [],[]⟩)] (lsT [(.l .str),.s,.i,.i] (fun x=>zk N N x.1 x.2.1 x.2.2.1 x.2.2.2.1) fun R o κ=>(zl o (fun a11=>κ 0 [.i a11]) (fun b12=>κ 1 [])))
theorem wT(N:Nat):Lp Tryz.f22 [1,0,1,2] (qP N):=jt qd (K24 N) .auto .nil [(.l .str),.s,.i,.i] [[.i],[]] (fun m x=>zk N m x.1 x.2.1 x.2.2.1 x.2.2.2.1) ⟨fun x=>(Sum.inl x.1),fun _=>(Sum.inr ()),()⟩ N
def T22(N:Nat):FT:=(22,jl [(.sl .str),.str] [(.int .i64)] fun x=>zp N x.1 x.2.1)::(T24 N)
theorem K22(N:Nat):AT (T22 N):=fnA qd (K24 N) (.two .auto (.two (.two .auto (.one (.by_ (qP N)))) .auto)) Tryz.func22 (.cons (wT N) .nil)
def T12(N:Nat):FT:=(12,jl [.str] [(.int .i64),.bool] fun x=>j3 N x.1)::(T22 N)
theorem K12(N:Nat):AT (T12 N):=fnA qd (K22 N) .auto Tryz.func12 .nil
def T58(N:Nat):FT:=(58,jl [.u8] [.bool] fun x=>zbg N x.1)::(T12 N)
theorem K58(N:Nat):AT (T58 N):=fnA qd (K12 N) .auto Tryz.func58 .nil
def T57(N:Nat):FT:=(57,jl [.u8] [.bool] fun x=>zL N x.1)::(T58 N)
theorem K57(N:Nat):AT (T57 N):=fnA qd (K58 N) .auto Tryz.func57 .nil
def zvz(N:Nat):FT:=(122,jl [.str,.str] [.bool] fun x=>jk N x.1 x.2.1)::(T57 N)
theorem zvV(N:Nat):AT (zvz N):=fnA qd (K57 N) .auto Tryz.func122 .nil
def zvv(N:Nat):FT:=(112,jl [.str,.str] [.str,.bool] fun x=>jj N x.1 x.2.1)::(zvz N)
theorem zvT(N:Nat):AT (zvv N):=fnA qd (zvV N) .auto Tryz.func112 .nil
def zvp(N:Nat):FT:=(101,jl [.str,.str] [.str,.bool] fun x=>ji N x.1 x.2.1)::(zvv N)
theorem zvP(N:Nat):AT (zvp N):=fnA qd (zvT N) .auto Tryz.func101 .nil
def zvo(N:Nat):FT:=(100,jl [.str,.str] [.bool] fun x=>ql N x.1 x.2.1)::(zvp N)
theorem zvO(N:Nat):AT (zvo N):=fnA qd (zvP N) .auto Tryz.func100 .nil
def T85(N:Nat):FT:=(85,jl [.str,.str] [.str,.bool] fun x=>qk N x.1 x.2.1)::(zvo N)
theorem K85(N:Nat):AT (T85 N):=fnA qd (zvO N) .auto Tryz.func85 .nil
def T63(N:Nat):FT:=(63,jl [.str,.str] [.str,.bool] fun x=>zV N x.1 x.2.1)::(T85 N)
theorem K63(N:Nat):AT (T63 N):=fnA qd (K85 N) .auto Tryz.func63 .nil
def zbB(N:Nat):LF:=zU [(28587302322179,.u8)] ⟨.u8::.drop::.drop::(.gs 0 1703937)::.drop::.drop::(.int .i64)::dr 14 [],[.seq .u8 1703937 0 false]⟩ [(.exit 0,⟨dr 3 ((.gs 0 1703937)::dr 17 []),[.seq .u8 1703937 0 false]⟩)] (lsT [.c,.i,(.l .u8)] (fun x=>kq N N x.1 x.2.1 x.2.2.1) fun R o κ=>κ 0 [.l .u8 o])
theorem ze5(N:Nat):Lp Tryz.f113 [1,1,0,1,2] (zbB N):=jt qd (K63 N) .auto .nil [.c,.i,(.l .u8)] [[(.l .u8)]] (fun m x=>kq N m x.1 x.2.1 x.2.2.1) ⟨fun x=>x.1,()⟩ N
def zvw(N:Nat):FT:=(113,jl [.u8] [(.sl .u8)] fun x=>zcL N x.1)::(T63 N)
theorem zvm(N:Nat):AT (zvw N):=fnA qd (K63 N) (.two .auto (.two .auto (.two (.two .auto (.one (.by_ (zbB N)))) .auto))) Tryz.func113 (.cons (ze5 N) .nil)
def zbC(N:Nat):LF:=zU [] ⟨.u8::dr 4 ((.gs 0 0)::(.cst (.int .i64 (5:Int)))::(.int .i64)::dr 10 []),[.seq .str 0 0 true]⟩ [(.ret,⟨.drop::.drop::.str::dr 15 [],[.seq .str 0 0 true]⟩),(.exit 0,⟨dr 18 [],[.seq .str 0 0 true]⟩)] (lsT [.c,.i,(.l .str)] (fun x=>kr N N x.1 x.2.1 x.2.2.1) fun R o κ=>(zl o (fun a9=>κ 0 [.s a9.1,.l .str a9.2]) (fun b10=>κ 1 [.l .str b10])))
theorem ze7(N:Nat):Lp Tryz.f114 [1,0,1,2] (zbC N):=jt qd (zvm N) .auto .nil [.c,.i,(.l .str)] [[.s,(.l .str)],[(.l .str)]] (fun m x=>kr N m x.1 x.2.1 x.2.2.1) ⟨fun x=>(Sum.inl (x.1,x.2.1)),fun x=>(Sum.inr x.1),()⟩ N
def zvx(N:Nat):FT:=(114,jl [.u8] [.str] fun x=>zfA N x.1)::(zvw N)
theorem zuL(N:Nat):AT (zvx N):=fnA qd (zvm N) (.two .auto (.two (.two .auto (.one (.by_ (zbC N)))) .auto)) Tryz.func114 (.cons (ze7 N) .nil)
def zai(N:Nat):LF:=zU [] ⟨.drop::(.map 0)::dr 3 ((.isl .u8)::(.int .i64)::(.int .i64)::dr 10 []),[.kv .str .u8 0]⟩ [(.exit 0,⟨.drop::(.map 0)::dr 16 [],[.kv .str .u8 0]⟩)] (lsT [(.l .u8),.i,.i,(.l (.pair .str .u8))] (fun x=>jq N N x.1 x.2.1 x.2.2.1 x.2.2.2.1) fun R o κ=>κ 0 [.l (.pair .str .u8) o])
def zaj(N:Nat):LF:=zU [] ⟨dr 7 (.u8::(.map 0)::dr 24 ((.gs 1 0)::(.int .i64)::(.int .i64)::dr 17 [])),[.kv .str .u8 0,.seq .str 0 0 true]⟩ [(.ret,⟨.drop::.drop::.u8::(.cst (.bool false))::dr 49 [],[.kv .str .u8 0,.seq .str 0 0 true]⟩),(.exit 0,⟨dr 7 (.u8::dr 45 []),[.kv .str .u8 0,.seq .str 0 0 true]⟩)] (lsT [.c,.i,.i,(.l (.pair .str .u8)),(.l .str)] (fun x=>qJ N N x.1 x.2.1 x.2.2.1 x.2.2.2.1 x.2.2.2.2.1) fun R o κ=>(zl o (fun a50=>κ 0 [.c a50.1,.l (.pair .str .u8) a50.2.1,.l .str a50.2.2]) (fun b51=>κ 1 [.c b51.1,.l (.pair .str .u8) b51.2.1,.l .str b51.2.2])))
theorem zdg(N:Nat):Lp Tryz.f102 [1,1,0,1,2] (zai N):=jt qd (zuL N) .auto .nil [(.l .u8),.i,.i,(.l (.pair .str .u8))] [[(.l (.pair .str .u8))]] (fun m x=>jq N m x.1 x.2.1 x.2.2.1 x.2.2.2.1) ⟨fun x=>x.1,()⟩ N
theorem zdi(N:Nat):Lp Tryz.f86 [1,1,1,1,1,1,1,0,1,2] (zaj N):=jt qd (zuL N) .auto .nil [.c,.i,.i,(.l (.pair .str .u8)),(.l .str)] [[.c,(.l (.pair .str .u8)),(.l .str)],[.c,(.l (.pair .str .u8)),(.l .str)]] (fun m x=>qJ N m x.1 x.2.1 x.2.2.1 x.2.2.2.1 x.2.2.2.2.1) ⟨fun x=>(Sum.inl (x.1,x.2.1,x.2.2.1)),fun x=>(Sum.inr (x.1,x.2.1,x.2.2.1)),()⟩ N
def T86(N:Nat):FT:=(86,jl [.str] [.u8,.bool] fun x=>jF N x.1)::(zvx N)
theorem K86(N:Nat):AT (T86 N):=fnA qd (zuL N) (.two .auto (.two .auto (.two .auto (.two .auto (.two .auto (.two .auto (.two (.cal 0 102 (.two .auto (.two .auto (.two (.two .auto (.one (.by_ (zai N)))) .auto))) .auto) (.two (.two .auto (.one (.by_ (zaj N)))) .auto)))))))) Tryz.func86 (.cons (zdg N) (.cons (zdi N) .nil))
def T99(N:Nat):FT:=(99,jl [.str] [(.int .u32),.bool] fun x=>zY N x.1)::(T86 N)
theorem K99(N:Nat):AT (T99 N):=fnA qd (K86 N) .auto Tryz.func99 .nil
def kZ(N:Nat):LF:=zU [(4,(.pair (.int .u32) (.int .u32)))] ⟨dr 4 ((.gs 1 1)::dr 10 ((.gs 0 0)::(.int .i64)::(.int .i64)::dr 36 [])),[.seq .str 0 0 true,.seq (.pair (.int .u32) (.int .u32)) 1 0 false]⟩ [(.ret,⟨.drop::.drop::(.cst .qp)::(.cst (.bool false))::dr 50 [],[.seq .str 0 0 true,.seq (.pair (.int .u32) (.int .u32)) 1 0 false]⟩),(.exit 0,⟨dr 4 ((.gs 1 1)::dr 49 []),[.seq .str 0 0 true,.seq (.pair (.int .u32) (.int .u32)) 1 0 false]⟩)] (lsT [.i,.i,(.l .str),(.l (.pair (.int .u32) (.int .u32)))] (fun x=>zC N N x.1 x.2.1 x.2.2.1 x.2.2.2.1) fun R o κ=>(zl o (fun a51=>κ 0 [.l .str a51.1,.l (.pair (.int .u32) (.int .u32)) a51.2]) (fun b52=>κ 1 [.l .str b52.1,.l (.pair (.int .u32) (.int .u32)) b52.2])))
theorem zcy(N:Nat):Lp Tryz.f83 [1,1,0,1,2] (kZ N):=jt qd (K99 N) .auto .nil [.i,.i,(.l .str),(.l (.pair (.int .u32) (.int .u32)))] [[(.l .str),(.l (.pair (.int .u32) (.int .u32)))],[(.l .str),(.l (.pair (.int .u32) (.int .u32)))]] (fun m x=>zC N m x.1 x.2.1 x.2.2.1 x.2.2.2.1) ⟨fun x=>(Sum.inl (x.1,x.2.1)),fun x=>(Sum.inr (x.1,x.2.1)),()⟩ N
def T83(N:Nat):FT:=(83,zuB (.pair (.int .u32) (.int .u32)) [.str] [.bool] fun x=>jx N x.1)::(T99 N)
theorem K83(N:Nat):AT (T83 N):=fnO qd (K99 N) (.two .auto (.two .auto (.two (.two .auto (.one (.by_ (kZ N)))) .auto))) Tryz.func83 (.cons (zcy N) .nil)
def T84(N:Nat):FT:=(84,jl [.str] [(.int .i64),.bool] fun x=>jv N x.1)::(T83 N)
theorem K84(N:Nat):AT (T84 N):=fnA qd (K83 N) .auto Tryz.func84 .nil
def kE(N:Nat):LF:=zU [] ⟨.drop::.str::(.ptr 11 0 1)::dr 4 ((.int .i64)::(.int .i64)::dr 10 []),(gn 11 [.cells [(.fn 57 [] [])] 0])⟩ [(.ret,⟨dr 4 ((.cst (.bool false))::dr 14 []),(gn 11 [.cells [(.fn 57 [] [])] 0])⟩),(.exit 0,⟨dr 19 [],(gn 11 [.cells [(.fn 57 [] [])] 0])⟩)] (lsT [.s,.i,.i] (fun x=>qa N N x.1 x.2.1 x.2.2.1) fun R o κ=>(zl o (fun a26=>κ 0 []) (fun b27=>κ 1 [])))
def kG(N:Nat):LF:=zU [] ⟨(.ptr 3 0 10)::(.cst (.int .i64 (3:Int)))::(.fn 64 [(.ptr 3 0 10)] [])::dr 14 [],(.gone::.gone::.gone::.cells [(.isl uS1),.str,(.int .i64),.str,(.cst .qp),(.cst (.int .i64 (0:Int))),(.cst (.int .i64 (0:Int))),(.cst (.bool false)),.u8,(.cst .qp)] 0::(gn 11 []))⟩ [(.panic (.ifc 38 (.agg [])),⟨dr 17 [],(.gone::.gone::.gone::.cells [(.isl uS1),.str,(.int .i64),.str,(.cst .qp),(.cst (.int .i64 (0:Int))),(.cst (.int .i64 (0:Int))),(.cst (.bool false)),.u8,(.cst .qp)] 0::(gn 11 []))⟩),(.ret,⟨dr 17 [],(.gone::.gone::.gone::.cells [(.isl uS1),.str,(.int .i64),.str,(.cst .qp),(.cst (.int .i64 (0:Int))),(.cst (.int .i64 (0:Int))),(.cst (.bool false)),.u8,(.cst .qp)] 0::(gn 11 []))⟩)] (lsT [(.l uS1),.s,.i,.s,.c] (fun x=>zA N N x.1 x.2.1 x.2.2.1 x.2.2.2.1 x.2.2.2.2.1) fun R o κ=>(zl o (fun a54=>κ 0 [.l uS1 a54.1,.s a54.2.1,.i a54.2.2.1,.s a54.2.2.2.1,.c a54.2.2.2.2]) (fun b55=>κ 1 [.l uS1 b55.1,.s b55.2.1,.i b55.2.2.1,.s b55.2.2.2.1,.c b55.2.2.2.2])))
def kH(N:Nat):LF:=zU [] ⟨.drop::.str::(.ptr 11 0 1)::dr 4 ((.int .i64)::(.int .i64)::dr 10 []),(gn 11 [.cells [(.fn 57 [] [])] 0])⟩ [(.ret,⟨dr 4 ((.cst (.bool false))::dr 14 []),(gn 11 [.cells [(.fn 57 [] [])] 0])⟩),(.exit 0,⟨dr 19 [],(gn 11 [.cells [(.fn 57 [] [])] 0])⟩)] (lsT [.s,.i,.i] (fun x=>qb N N x.1 x.2.1 x.2.2.1) fun R o κ=>(zl o (fun a83=>κ 0 []) (fun b84=>κ 1 [])))
def ka(N:Nat):LF:=zU [] ⟨(.ptr 3 0 10)::(.cst (.int .i64 (3:Int)))::(.fn 64 [(.ptr 3 0 10)] [])::dr 14 [],(.gone::.gone::.gone::.cells [(.isl uS1),.str,(.int .i64),.str,(.cst .qp),(.cst (.int .i64 (0:Int))),(.cst (.int .i64 (0:Int))),(.cst (.bool false)),.u8,(.cst .qp)] 0::(gn 12 []))⟩ [(.panic (.ifc 38 (.agg [])),⟨dr 17 [],(.gone::.gone::.gone::.cells [(.isl uS1),.str,(.int .i64),.str,(.cst .qp),(.cst (.int .i64 (0:Int))),(.cst (.int .i64 (0:Int))),(.cst (.bool false)),.u8,(.cst .qp)] 0::(gn 12 []))⟩),(.ret,⟨dr 17 [],(.gone::.gone::.gone::.cells [(.isl uS1),.str,(.int .i64),.str,(.cst .qp),(.cst (.int .i64 (0:Int))),(.cst (.int .i64 (0:Int))),(.cst (.bool false)),.u8,(.cst .qp)] 0::(gn 12 []))⟩)] (lsT [(.l uS1),.s,.i,.s,.c] (fun x=>jX N N x.1 x.2.1 x.2.2.1 x.2.2.2.1 x.2.2.2.2.1) fun R o κ=>(zl o (fun a108=>κ 0 [.l uS1 a108.1,.s a108.2.1,.i a108.2.2.1,.s a108.2.2.2.1,.c a108.2.2.2.2]) (fun b109=>κ 1 [.l uS1 b109.1,.s b109.2.1,.i b109.2.2.1,.s b109.2.2.2.1,.c b109.2.2.2.2])))
def kb(N:Nat):LF:=zU [] ⟨(.ptr 3 0 10)::(.cst (.int .i64 (3:Int)))::(.fn 61 [(.ptr 3 0 10)] [])::dr 14 [],(.gone::.gone::.gone::.cells [(.isl uS1),.str,(.int .i64),(.cst (.str ([]:List UInt8))),(.gs 11 0),(.int .i64),(.cst (.int .i64 (0:Int))),(.cst (.bool false)),.u8,(.cst .qp)] 0::(gn 7 (.seq (.pair (.int .u32) (.int .u32)) 0 0 true::(gn 4 []))))⟩ [(.panic (.ifc 38 (.agg [])),⟨dr 17 [],(.gone::.gone::.gone::.cells [(.isl uS1),.str,(.int .i64),(.cst (.str ([]:List UInt8))),(.gs 11 0),(.int .i64),(.cst (.int .i64 (0:Int))),(.cst (.bool false)),.u8,(.cst .qp)] 0::(gn 7 (.seq (.pair (.int .u32) (.int .u32)) 0 0 true::(gn 4 []))))⟩),(.ret,⟨dr 17 [],(.gone::.gone::.gone::.cells [(.isl uS1),.str,(.int .i64),(.cst (.str ([]:List UInt8))),(.gs 11 0),(.int .i64),(.cst (.int .i64 (0:Int))),(.cst (.bool false)),.u8,(.cst .qp)] 0::(gn 7 (.seq (.pair (.int .u32) (.int .u32)) 0 0 true::(gn 4 []))))⟩)] (lsT [(.l uS1),.s,.i,.i,.c,(.l (.pair (.int .u32) (.int .u32)))] (fun x=>zy N N x.1 x.2.1 x.2.2.1 x.2.2.2.2.2.1 x.2.2.2.1 x.2.2.2.2.1) fun R o κ=>(zl o (fun a158=>κ 0 [.l uS1 a158.1,.s a158.2.1,.i a158.2.2.1,.i a158.2.2.2.2.1,.c a158.2.2.2.2.2,.l (.pair (.int .u32) (.int .u32)) a158.2.2.2.1]) (fun b159=>κ 1 [.l uS1 b159.1,.s b159.2.1,.i b159.2.2.1,.i b159.2.2.2.2.1,.c b159.2.2.2.2.2,.l (.pair (.int .u32) (.int .u32)) b159.2.2.2.1])))
def ke(N:Nat):LF:=zU [] ⟨(.ptr 3 0 10)::(.cst (.int .i64 (3:Int)))::(.fn 64 [(.ptr 3 0 10)] [])::dr 14 [],(.gone::.gone::.gone::.cells [(.isl uS1),.str,(.int .i64),(.cst (.str ([]:List UInt8))),(.gs 11 0),(.cst (.int .i64 (0:Int))),(.int .i64),.bool,.u8,(.cst .qp)] 0::(gn 7 (.seq (.pair (.int .u32) (.int .u32)) 0 0 true::(gn 9 []))))⟩ [(.panic (.ifc 38 (.agg [])),⟨dr 17 [],(.gone::.gone::.gone::.cells [(.isl uS1),.str,(.int .i64),(.cst (.str ([]:List UInt8))),(.gs 11 0),(.cst (.int .i64 (0:Int))),(.int .i64),.bool,.u8,(.cst .qp)] 0::(gn 7 (.seq (.pair (.int .u32) (.int .u32)) 0 0 true::(gn 9 []))))⟩),(.ret,⟨dr 17 [],(.gone::.gone::.gone::.cells [(.isl uS1),.str,(.int .i64),(.cst (.str ([]:List UInt8))),(.gs 11 0),(.cst (.int .i64 (0:Int))),(.int .i64),.bool,.u8,(.cst .qp)] 0::(gn 7 (.seq (.pair (.int .u32) (.int .u32)) 0 0 true::(gn 9 []))))⟩)] (lsT [(.l uS1),.s,.i,.i,.b,.c,(.l (.pair (.int .u32) (.int .u32)))] (fun x=>zz N N x.1 x.2.1 x.2.2.1 x.2.2.2.2.2.2.1 x.2.2.2.1 x.2.2.2.2.1 x.2.2.2.2.2.1) fun R o κ=>(zl o (fun a195=>κ 0 [.l uS1 a195.1,.s a195.2.1,.i a195.2.2.1,.i a195.2.2.2.2.1,.b a195.2.2.2.2.2.1,.c a195.2.2.2.2.2.2,.l (.pair (.int .u32) (.int .u32)) a195.2.2.2.1]) (fun b196=>κ 1 [.l uS1 b196.1,.s b196.2.1,.i b196.2.2.1,.i b196.2.2.2.2.1,.b b196.2.2.2.2.2.1,.c b196.2.2.2.2.2.2,.l (.pair (.int .u32) (.int .u32)) b196.2.2.2.1])))
def kf(N:Nat):LF:=zU [] ⟨(.ptr 3 0 10)::(.cst (.int .i64 (0:Int)))::(.fn 64 [(.ptr 3 0 10)] [])::dr 14 [],(.gone::.gone::.gone::.cells [(.isl uS1),.str,(.int .i64),(.cst (.str ([]:List UInt8))),(.gs 11 0),(.cst (.int .i64 (0:Int))),(.int .i64),.bool,.u8,(.cst .qp)] 0::(gn 7 (.seq (.pair (.int .u32) (.int .u32)) 0 0 true::(gn 7 []))))⟩ [(.panic (.ifc 38 (.agg [])),⟨dr 17 [],(.gone::.gone::.gone::.cells [(.isl uS1),.str,(.int .i64),(.cst (.str ([]:List UInt8))),(.gs 11 0),(.cst (.int .i64 (0:Int))),(.int .i64),.bool,.u8,(.cst .qp)] 0::(gn 7 (.seq (.pair (.int .u32) (.int .u32)) 0 0 true::(gn 7 []))))⟩),(.ret,⟨dr 17 [],(.gone::.gone::.gone::.cells [(.isl uS1),.str,(.int .i64),(.cst (.str ([]:List UInt8))),(.gs 11 0),(.cst (.int .i64 (0:Int))),(.int .i64),.bool,.u8,(.cst .qp)] 0::(gn 7 (.seq (.pair (.int .u32) (.int .u32)) 0 0 true::(gn 7 []))))⟩)] (lsT [(.l uS1),.s,.i,.i,.b,.c,(.l (.pair (.int .u32) (.int .u32)))] (fun x=>zB N N x.1 x.2.1 x.2.2.1 x.2.2.2.2.2.2.1 x.2.2.2.1 x.2.2.2.2.1 x.2.2.2.2.2.1) fun R o κ=>(zl o (fun a224=>κ 0 [.l uS1 a224.1,.s a224.2.1,.i a224.2.2.1,.i a224.2.2.2.2.1,.b a224.2.2.2.2.2.1,.c a224.2.2.2.2.2.2,.l (.pair (.int .u32) (.int .u32)) a224.2.2.2.1]) (fun b225=>κ 1 [.l uS1 b225.1,.s b225.2.1,.i b225.2.2.1,.i b225.2.2.2.2.1,.b b225.2.2.2.2.2.1,.c b225.2.2.2.2.2.2,.l (.pair (.int .u32) (.int .u32)) b225.2.2.2.1])))
theorem zbT(N:Nat):Lp Tryz.f42 [1,0,1,2] (kE N):=jt qd (K84 N) .auto .nil [.s,.i,.i] [[],[]] (fun m x=>qa N m x.1 x.2.1 x.2.2.1) ⟨fun _=>(Sum.inl ()),fun _=>(Sum.inr ()),()⟩ N
theorem zbU(N:Nat):Lp Tryz.f62 [2] (kG N):=jt qd (K84 N) .auto .nil [(.l uS1),.s,.i,.s,.c] [[(.l uS1),.s,.i,.s,.c],[(.l uS1),.s,.i,.s,.c]] (fun m x=>zA N m x.1 x.2.1 x.2.2.1 x.2.2.2.1 x.2.2.2.2.1) ⟨fun x=>(Sum.inl (x.1,x.2.1,x.2.2.1,x.2.2.2.1,x.2.2.2.2.1)),fun x=>(Sum.inr (x.1,x.2.1,x.2.2.1,x.2.2.2.1,x.2.2.2.2.1)),()⟩ N
theorem zbV(N:Nat):Lp Tryz.f42 [1,0,1,2] (kH N):=jt qd (K84 N) .auto .nil [.s,.i,.i] [[],[]] (fun m x=>qb N m x.1 x.2.1 x.2.2.1) ⟨fun _=>(Sum.inl ()),fun _=>(Sum.inr ()),()⟩ N
theorem zbI(N:Nat):Lp Tryz.f62 [2] (ka N):=jt qd (K84 N) .auto .nil [(.l uS1),.s,.i,.s,.c] [[(.l uS1),.s,.i,.s,.c],[(.l uS1),.s,.i,.s,.c]] (fun m x=>jX N m x.1 x.2.1 x.2.2.1 x.2.2.2.1 x.2.2.2.2.1) ⟨fun x=>(Sum.inl (x.1,x.2.1,x.2.2.1,x.2.2.2.1,x.2.2.2.2.1)),fun x=>(Sum.inr (x.1,x.2.1,x.2.2.1,x.2.2.2.1,x.2.2.2.2.1)),()⟩ N
theorem zbK(N:Nat):Lp Tryz.f62 [2] (kb N):=jt qd (K84 N) .auto .nil [(.l uS1),.s,.i,.i,.c,(.l (.pair (.int .u32) (.int .u32)))] [[(.l uS1),.s,.i,.i,.c,(.l (.pair (.int .u32) (.int .u32)))],[(.l uS1),.s,.i,.i,.c,(.l (.pair (.int .u32) (.int .u32)))]] (fun m x=>zy N m x.1 x.2.1 x.2.2.1 x.2.2.2.2.2.1 x.2.2.2.1 x.2.2.2.2.1) ⟨fun x=>(Sum.inl (x.1,x.2.1,x.2.2.1,x.2.2.2.2.2.1,x.2.2.2.1,x.2.2.2.2.1)),fun x=>(Sum.inr (x.1,x.2.1,x.2.2.1,x.2.2.2.2.2.1,x.2.2.2.1,x.2.2.2.2.1)),()⟩ N
theorem zbL(N:Nat):Lp Tryz.f62 [2] (ke N):=jt qd (K84 N) .auto .nil [(.l uS1),.s,.i,.i,.b,.c,(.l (.pair (.int .u32) (.int .u32)))] [[(.l uS1),.s,.i,.i,.b,.c,(.l (.pair (.int .u32) (.int .u32)))],[(.l uS1),.s,.i,.i,.b,.c,(.l (.pair (.int .u32) (.int .u32)))]] (fun m x=>zz N m x.1 x.2.1 x.2.2.1 x.2.2.2.2.2.2.1 x.2.2.2.1 x.2.2.2.2.1 x.2.2.2.2.2.1) ⟨fun x=>(Sum.inl (x.1,x.2.1,x.2.2.1,x.2.2.2.2.2.2.1,x.2.2.2.1,x.2.2.2.2.1,x.2.2.2.2.2.1)),fun x=>(Sum.inr (x.1,x.2.1,x.2.2.1,x.2.2.2.2.2.2.1,x.2.2.2.1,x.2.2.2.2.1,x.2.2.2.2.2.1)),()⟩ N
theorem zbM(N:Nat):Lp Tryz.f62 [2] (kf N):=jt qd (K84 N) .auto .nil [(.l uS1),.s,.i,.i,.b,.c,(.l (.pair (.int .u32) (.int .u32)))] [[(.l uS1),.s,.i,.i,.b,.c,(.l (.pair (.int .u32) (.int .u32)))],[(.l uS1),.s,.i,.i,.b,.c,(.l (.pair (.int .u32) (.int .u32)))]] (fun m x=>zB N m x.1 x.2.1 x.2.2.1 x.2.2.2.2.2.2.1 x.2.2.2.1 x.2.2.2.2.1 x.2.2.2.2.2.1) ⟨fun x=>(Sum.inl (x.1,x.2.1,x.2.2.1,x.2.2.2.2.2.2.1,x.2.2.2.1,x.2.2.2.2.1,x.2.2.2.2.2.1)),fun x=>(Sum.inr (x.1,x.2.1,x.2.2.1,x.2.2.2.2.2.2.1,x.2.2.2.1,x.2.2.2.2.1,x.2.2.2.2.2.1)),()⟩ N
def T5(N:Nat):FT:=(5,zuA [(.sl .u8)] [uS2,.bool] fun x=>wK N x.1)::(T84 N)
theorem K5(N:Nat):AT (T5 N):=zwl qd (K84 N) (.two .auto (.two .auto (.two .auto (.two .auto (.two .auto (.two .auto (.two .auto (.two .auto (.two .auto (.two .auto (.two (.cal 4 27 (.two .auto (.two .auto (.two .auto (.two (.cal 4 19 (.two .auto (.two (.cal 6 42 (.two .auto (.two (.two .auto (.one (.by_ (kE N)))) .auto)) .auto) .auto)) .auto) .auto)))) (.cal 4 28 (.two (.cal 1 27 (.two .auto (.two .auto (.two .auto (.two (.cal 4 19 (.two .auto (.two (.cal 6 42 (.two .auto (.two (.two .auto (.one (.by_ (kH N)))) .auto)) .auto) .auto)) .auto) .auto)))) .auto) (.two .auto (.two (.two .auto (.two (.two (.cal 1 59 (.two .auto (.two (.two .auto (.two (.cal 3 62 (.one (.by_ (zuN 16 (ka N)  (kG N)))) .auto) .auto)) .auto)) .auto) .auto) .auto)) .auto))) (.cal 4 29 (.two .auto (.two .auto (.two .auto (.two (.cal 3 62 (.one (.by_ (kb N))) .auto) .auto)))) (.cal 4 30 (.two .auto (.two .auto (.two .auto (.two .auto (.two .auto (.two .auto (.two (.two .auto (.two (.two (.cal 1 59 (.two .auto (.two (.two .auto (.two (.cal 3 62 (.one (.by_ (ke N))) .auto) .auto)) .auto)) .auto) .auto) .auto)) (.cal 3 62 (.one (.by_ (kf N))) .auto)))))))) .auto)))) .auto))))))))))) Tryz.func5 (.cons (zbT N) (.cons (zbV N) (.cons (zs4 (n:=16) (zbI N) (zbU N)) (.cons (zbK N) (.cons (zbL N) (.cons (zbM N) .nil))))))
def T65(N:Nat):FT:=(65,jl [.u8] [.bool] fun x=>wx N x.1)::(T5 N)
theorem K65(N:Nat):AT (T65 N):=fnA qd (K5 N) .auto Tryz.func65 .nil
def T31(N:Nat):FT:=(31,jl [.u8] [.bool] fun x=>xJ N x.1)::(T65 N)
theorem K31(N:Nat):AT (T31 N):=fnA qd (K65 N) .auto Tryz.func31 .nil
def zbD(N:Nat):LF:=zU [] ⟨(.isl .u8)::dr 4 ((.int .i64)::dr 34 []),[]⟩ [(.exit 0,⟨(.isl .u8)::dr 4 ((.int .i64)::dr 34 []),[]⟩)] (lsT [(.l .u8),.i] (fun x=>jw N N x.1 x.2.1) fun R o κ=>κ 0 [.l .u8 o.1,.i o.2])
theorem ze9(N:Nat):Lp Tryz.f15 [1,1,0,2] (zbD N):=jt qd (K31 N) .auto .nil [(.l .u8),.i] [[(.l .u8),.i]] (fun m x=>jw N m x.1 x.2.1) ⟨fun x=>(x.1,x.2.1),()⟩ N
def T15(N:Nat):FT:=(15,jl [(.sl .u8)] [.str,(.int .i64),.bool] fun x=>zbj N x.1)::(T31 N)
theorem K15(N:Nat):AT (T15 N):=fnA qd (K31 N) (.two .auto (.two .auto (.two (.one (.by_ (zbD N))) .auto))) Tryz.func15 (.cons (ze9 N) .nil)
def T87(N:Nat):FT:=(87,jl [.u8] [.bool] fun x=>jG N x.1)::(T15 N)
theorem K87(N:Nat):AT (T87 N):=fnA qd (K15 N) .auto Tryz.func87 .nil
def wA(N:Nat):LF:=zU [(6597069766663,.u8)] ⟨(.isl .u8)::dr 6 ((.gs 0 393217)::(.int .i64)::dr 75 []),[.seq .u8 393217 0 false]⟩ [(.ret,⟨dr 4 ((.cst .qp)::(.cst (.int .i64 (0:Int)))::(.cst (.bool false))::dr 77 []),[.seq .u8 393217 0 false]⟩),(.exit 0,⟨(.isl .u8)::dr 6 ((.gs 0 393217)::(.int .i64)::dr 75 []),[.seq .u8 393217 0 false]⟩)] (lsT [(.l .u8),.i,(.l .u8)] (fun x=>zR N N x.1 x.2.1 x.2.2.1) fun R o κ=>(zl o (fun a24=>κ 0 [.l .u8 a24]) (fun b25=>κ 1 [.l .u8 b25.1,.i b25.2.1,.l .u8 b25.2.2])))
theorem zaQ(N:Nat):Lp Tryz.f66 [1,1,1,1,0,2] (wA N):=jt qd (K87 N) .auto .nil [(.l .u8),.i,(.l .u8)] [[(.l .u8)],[(.l .u8),.i,(.l .u8)]] (fun m x=>zR N m x.1 x.2.1 x.2.2.1) ⟨fun x=>(Sum.inl x.1),fun x=>(Sum.inr (x.1,x.2.1,x.2.2.1)),()⟩ N
def T66(N:Nat):FT:=(66,jl [(.sl .u8),(.int .i64)] [(.sl .u8),(.int .i64),.bool] fun x=>jB N x.1 x.2.1)::(T87 N)
theorem K66(N:Nat):AT (T66 N):=fnA qd (K87 N) (.two .auto (.two .auto (.two .auto (.two .auto (.two (.one (.by_ (wA N))) .auto))))) Tryz.func66 (.cons (zaQ N) .nil)
def kU(N:Nat):LF:=zU [] ⟨(.int .u32)::.drop::.drop::.str::dr 18 [],[]⟩ [(.exit 0,⟨(.int .u32)::.drop::.drop::.str::dr 18 [],[]⟩)] (lsT [.i,.s] (fun x=>qf N N x.1 x.2.1) fun R o κ=>κ 0 [.i o.1,.s o.2])
theorem zcw(N:Nat):Lp Tryz.f103 [1,1,0,2] (kU N):=jt qd (K66 N) .auto .nil [.i,.s] [[.i,.s]] (fun m x=>qf N m x.1 x.2.1) ⟨fun x=>(x.1,x.2.1),()⟩ N
def zvq(N:Nat):FT:=(103,jl [(.int .u32)] [.str] fun x=>wN N x.1)::(T66 N)
theorem zvk(N:Nat):AT (zvq N):=fnA qd (K66 N) (.two .auto (.two .auto (.two (.one (.by_ (kU N))) .auto))) Tryz.func103 (.cons (zcw N) .nil)
def xH(N:Nat):LF:=zU [] ⟨.str::dr 3 ((.int .u64)::(.int .i64)::dr 38 []),[]⟩ [(.ret,⟨.drop::.drop::(.cst (.int .u32 (0:Int)))::(.cst (.bool false))::dr 40 [],[]⟩),(.exit 0,⟨.str::dr 3 ((.int .u64)::dr 39 []),[]⟩)] (lsT [.s,.i,.i] (fun x=>qq N N x.1 x.2.1 x.2.2.1) fun R o κ=>(zl o (fun a8=>κ 0 []) (fun b9=>κ 1 [.s b9.1,.i b9.2])))
theorem zcM(N:Nat):Lp Tryz.f88 [1,1,1,0,1,2] (xH N):=jt qd (zvk N) .auto .nil [.s,.i,.i] [[],[.s,.i]] (fun m x=>qq N m x.1 x.2.1 x.2.2.1) ⟨fun _=>(Sum.inl ()),fun x=>(Sum.inr (x.1,x.2.1)),()⟩ N
def T88(N:Nat):FT:=(88,jl [.str] [(.int .u32),.bool] fun x=>j4 N x.1)::(zvq N)
theorem K88(N:Nat):AT (T88 N):=fnA qd (zvk N) (.two .auto (.two .auto (.two .auto (.two (.two .auto (.one (.by_ (xH N)))) .auto)))) Tryz.func88 (.cons (zcM N) .nil)
def wy(N:Nat):LF:=zU [] ⟨(.isl .u8)::(.int .i64)::dr 5 ((.int .i64)::dr 112 []),[]⟩ [(.exit 0,⟨(.isl .u8)::(.int .i64)::dr 5 ((.int .i64)::dr 112 []),[]⟩)] (lsT [(.l .u8),.i,.i] (fun x=>zQ N N x.1 x.2.1 x.2.2.1) fun R o κ=>κ 0 [.l .u8 o.1,.i o.2.1,.i o.2.2])
theorem zaP(N:Nat):Lp Tryz.f67 [1,1,1,0,2] (wy N):=jt qd (K88 N) .auto .nil [(.l .u8),.i,.i] [[(.l .u8),.i,.i]] (fun m x=>zQ N m x.1 x.2.1 x.2.2.1) ⟨fun x=>(x.1,x.2.1,x.2.2.1),()⟩ N
def T67(N:Nat):FT:=(67,jl [(.sl .u8),(.int .i64)] [(.sl .u8),(.int .i64),.bool] fun x=>qx N x.1 x.2.1)::(T88 N)
theorem K67(N:Nat):AT (T67 N):=fnA qd (K88 N) (.two .auto (.two .auto (.two .auto (.two (.one (.by_ (wy N))) .auto)))) Tryz.func67 (.cons (zaP N) .nil)
def T68(N:Nat):FT:=(68,jl [.u8] [.bool] fun x=>jr N x.1)::(T67 N)
theorem K68(N:Nat):AT (T68 N):=fnA qd (K67 N) .auto Tryz.func68 .nil
def zaR(N:Nat):LF:=zU [] ⟨(.isl .u8)::(.int .i64)::.drop::.drop::(.ptr 0 0 3)::.drop::.drop::(.ptr 1 0 3)::dr 6 ((.int .i64)::dr 88 []),[.gone,.gone]⟩ [(.exit 1,⟨(.isl .u8)::(.int .i64)::.drop::.drop::(.ptr 0 0 3)::.drop::.drop::(.ptr 1 0 3)::dr 6 ((.int .i64)::dr 88 []),[.gone,.gone]⟩)] (lsT [(.l .u8),.i,.i] (fun x=>qY N N x.1 x.2.1 x.2.2.1) fun R o κ=>κ 0 [.l .u8 o.1,.i o.2.1,.i o.2.2])
theorem zd6(N:Nat):Lp Tryz.f32 [1,1,1,1,1,0,2] (zaR N):=jt qd (K68 N) .auto .nil [(.l .u8),.i,.i] [[(.l .u8),.i,.i]] (fun m x=>qY N m x.1 x.2.1 x.2.2.1) ⟨fun x=>(x.1,x.2.1,x.2.2.1),()⟩ N
def T32(N:Nat):FT:=(32,jl [(.sl .u8),(.int .i64)] [uS1,(.int .i64),.bool] fun x=>kJ N x.1 x.2.1)::(T68 N)
theorem K32(N:Nat):AT (T32 N):=fnA qd (K68 N) (.two .auto (.two .auto (.two .auto (.two .auto (.two .auto (.two (.one (.by_ (zaR N))) .auto)))))) Tryz.func32 (.cons (zd6 N) .nil)
def kW(N:Nat):LF:=zU [(4,uS1)] ⟨(.isl .u8)::dr 3 ((.gs 0 1)::(.int .i64)::dr 22 []),[.seq uS1 1 0 false]⟩ [(.ret,⟨.drop::.drop::(.cst .qp)::(.int .i64)::dr 24 [],[.seq uS1 1 0 false]⟩),(.ret,⟨.drop::.drop::(.gs 0 1)::(.cst (.int .i64 (-1:Int)))::dr 24 [],[.seq uS1 1 0 false]⟩)] (lsT [(.l .u8),.i,(.l uS1)] (fun x=>zM N N x.1 x.2.1 x.2.2.1) fun R o κ=>(zl o (fun a18=>κ 0 [.i a18.1,.l uS1 a18.2]) (fun b19=>κ 1 [.l uS1 b19])))
theorem zcx(N:Nat):Lp Tryz.f16 [1,1,1,2] (kW N):=jt qd (K32 N) .auto .nil [(.l .u8),.i,(.l uS1)] [[.i,(.l uS1)],[(.l uS1)]] (fun m x=>zM N m x.1 x.2.1 x.2.2.1) ⟨fun x=>(Sum.inl (x.1,x.2.1)),fun x=>(Sum.inr x.1),()⟩ N
def T16(N:Nat):FT:=(16,jl [(.sl .u8)] [(.sl uS1),(.int .i64)] fun x=>ku N x.1)::(T32 N)
theorem K16(N:Nat):AT (T16 N):=fnA qd (K32 N) (.two .auto (.two .auto (.two .auto (.one (.by_ (kW N)))))) Tryz.func16 (.cons (zcx N) .nil)
def T69(N:Nat):FT:=(69,jl [(.int .i64)] [.str] fun x=>zeC N x.1)::(T16 N)
theorem K69(N:Nat):AT (T69 N):=fnA qd (K16 N) .auto Tryz.func69 .nil
def zak(N:Nat):LF:=zU [] ⟨.str::.drop::.drop::.str::(.int .i64)::dr 24 [],[]⟩ [(.exit 0,⟨dr 3 (.str::dr 25 []),[]⟩)] (lsT [.s,.s,.i] (fun x=>qK N N x.1 x.2.1 x.2.2.1) fun R o κ=>κ 0 [.s o])
theorem zdj(N:Nat):Lp Tryz.f70 [1,1,0,1,2] (zak N):=jt qd (K69 N) .auto .nil [.s,.s,.i] [[.s]] (fun m x=>qK N m x.1 x.2.1 x.2.2.1) ⟨fun x=>x.1,()⟩ N
def T70(N:Nat):FT:=(70,jl [.str] [.str] fun x=>zm N x.1)::(T69 N)
theorem K70(N:Nat):AT (T70 N):=fnA qd (K69 N) (.two .auto (.two .auto (.two (.two .auto (.one (.by_ (zak N)))) .auto))) Tryz.func70 (.cons (zdj N) .nil)
def zan(N:Nat):LF:=zU [] ⟨.str::.drop::.drop::(.int .i64)::dr 10 [],[]⟩ [(.ret,⟨.drop::.drop::(.int .i64)::dr 11 [],[]⟩),(.exit 0,⟨dr 14 [],[]⟩)] (lsT [.s,.i] (fun x=>zb N N x.1 x.2.1) fun R o κ=>(zl o (fun a15=>κ 0 [.i a15]) (fun b16=>κ 1 [])))
theorem zdm(N:Nat):Lp Tryz.f33 [1,0,1,2] (zan N):=jt qd (K70 N) .auto .nil [.s,.i] [[.i],[]] (fun m x=>zb N m x.1 x.2.1) ⟨fun x=>(Sum.inl x.1),fun _=>(Sum.inr ()),()⟩ N
def T33(N:Nat):FT:=(33,jl [.str] [(.int .i64)] fun x=>wD N x.1)::(T70 N)
theorem K33(N:Nat):AT (T33 N):=fnA qd (K70 N) (.two .auto (.two (.two .auto (.one (.by_ (zan N)))) .auto)) Tryz.func33 (.cons (zdm N) .nil)
def zat(N:Nat):LF:=zU [] ⟨(.isl uS1)::.drop::.drop::.str::(.int .i64)::dr 21 [],[]⟩ [(.exit 0,⟨dr 3 (.str::dr 22 []),[]⟩)] (lsT [(.l uS1),.s,.i] (fun x=>qN N N x.1 x.2.1 x.2.2.1) fun R o κ=>κ 0 [.s o])
theorem zdr(N:Nat):Lp Tryz.f34 [1,1,0,1,2] (zat N):=jt qd (K33 N) .auto .nil [(.l uS1),.s,.i] [[.s]] (fun m x=>qN N m x.1 x.2.1 x.2.2.1) ⟨fun x=>x.1,()⟩ N
def T34(N:Nat):FT:=(34,jl [(.sl uS1)] [.str] fun x=>xq N x.1)::(T33 N)
theorem K34(N:Nat):AT (T34 N):=fnA qd (K33 N) (.two .auto (.two .auto (.two (.two .auto (.one (.by_ (zat N)))) .auto))) Tryz.func34 (.cons (zdr N) .nil)
def kL(N:Nat):LF:=zU [] ⟨.drop::(.ptr 0 0 3)::.drop::(.int .i64)::dr 31 [],[.cells [(.int .i64),.str,(.int .i64)] 0]⟩ [(.ret,⟨.drop::.drop::(.cst (.bool false))::dr 32 [],[.cells [(.int .i64),.str,(.int .i64)] 0]⟩),(.exit 0,⟨dr 35 [],[.cells [(.int .i64),.str,(.int .i64)] 0]⟩)] (lsT [.i,.i,.s,.i] (fun x=>qc N N x.1 x.2.1 x.2.2.1 x.2.2.2.1) fun R o κ=>(zl o (fun a15=>κ 0 [.i a15.1,.s a15.2.1,.i a15.2.2]) (fun b16=>κ 1 [.i b16.1,.s b16.2.1,.i b16.2.2])))
theorem zbW(N:Nat):Lp Tryz.f35 [1,1,0,1,2] (kL N):=jt qd (K34 N) .auto .nil [.i,.i,.s,.i] [[.i,.s,.i],[.i,.s,.i]] (fun m x=>qc N m x.1 x.2.1 x.2.2.1 x.2.2.2.1) ⟨fun x=>(Sum.inl (x.1,x.2.1,x.2.2.1)),fun x=>(Sum.inr (x.1,x.2.1,x.2.2.1)),()⟩ N
def T35(N:Nat):FT:=(35,jl [uS1] [.bool] fun x=>wR N x.1)::(T34 N)
theorem K35(N:Nat):AT (T35 N):=fnA qd (K34 N) (.two .auto (.two .auto (.two (.two .auto (.one (.by_ (kL N)))) .auto))) Tryz.func35 (.cons (zbW N) .nil)
def T89(N:Nat):FT:=(89,jl [(.int .i64)] [.str] fun x=>zeB N x.1)::(T35 N)
theorem K89(N:Nat):AT (T89 N):=fnA qd (K35 N) .auto Tryz.func89 .nil
def zas(N:Nat):LF:=zU [] ⟨.str::.drop::.drop::(.int .i64)::dr 11 [],[]⟩ [(.ret,⟨.drop::.drop::(.int .i64)::dr 12 [],[]⟩),(.exit 0,⟨dr 15 [],[]⟩)] (lsT [.s,.i] (fun x=>zj N N x.1 x.2.1) fun R o κ=>(zl o (fun a19=>κ 0 [.i a19]) (fun b20=>κ 1 [])))
theorem zdp(N:Nat):Lp Tryz.f73 [1,0,1,2] (zas N):=jt qd (K89 N) .auto .nil [.s,.i] [[.i],[]] (fun m x=>zj N m x.1 x.2.1) ⟨fun x=>(Sum.inl x.1),fun _=>(Sum.inr ()),()⟩ N
def T73(N:Nat):FT:=(73,jl [.str] [(.int .i64)] fun x=>kK N x.1)::(T89 N)
theorem K73(N:Nat):AT (T73 N):=fnA qd (K89 N) (.two .auto (.two (.two .auto (.one (.by_ (zas N)))) .auto)) Tryz.func73 (.cons (zdp N) .nil)
def T90(N:Nat):FT:=(90,jl [(.int .i64)] [.str] fun x=>zbF N x.1)::(T73 N)
theorem K90(N:Nat):AT (T90 N):=fnA qd (K73 N) .auto Tryz.func90 .nil
def zam(N:Nat):LF:=zU [] ⟨.str::.drop::.drop::(.int .i64)::dr 10 [],[]⟩ [(.ret,⟨.drop::.drop::(.int .i64)::dr 11 [],[]⟩),(.exit 0,⟨dr 14 [],[]⟩)] (lsT [.s,.i] (fun x=>zi N N x.1 x.2.1) fun R o κ=>(zl o (fun a15=>κ 0 [.i a15]) (fun b16=>κ 1 [])))
theorem zdk(N:Nat):Lp Tryz.f74 [1,0,1,2] (zam N):=jt qd (K90 N) .auto .nil [.s,.i] [[.i],[]] (fun m x=>zi N m x.1 x.2.1) ⟨fun x=>(Sum.inl x.1),fun _=>(Sum.inr ()),()⟩ N
def T74(N:Nat):FT:=(74,jl [.str] [(.int .i64)] fun x=>wC N x.1)::(T90 N)
theorem K74(N:Nat):AT (T74 N):=fnA qd (K90 N) (.two .auto (.two (.two .auto (.one (.by_ (zam N)))) .auto)) Tryz.func74 (.cons (zdk N) .nil)
def xN(N:Nat):LF:=zU [] ⟨(.isl uS1)::.bool::dr 4 ((.int .i64)::(.int .i64)::dr 45 []),[]⟩ [(.ret,⟨dr 4 ((.cst (.int .i64 (0:Int)))::(.cst (.bool false))::dr 47 []),[]⟩),(.exit 0,⟨(.isl uS1)::dr 5 ((.int .i64)::dr 46 []),[]⟩)] (lsT [(.l uS1),.b,.i,.i] (fun x=>zF N N x.1 x.2.1 x.2.2.1 x.2.2.2.1) fun R o κ=>(zl o (fun a16=>κ 0 []) (fun b17=>κ 1 [.l uS1 b17.1,.i b17.2])))
theorem zcP(N:Nat):Lp Tryz.f39 [1,1,0,1,2] (xN N):=jt qd (K74 N) .auto .nil [(.l uS1),.b,.i,.i] [[],[(.l uS1),.i]] (fun m x=>zF N m x.1 x.2.1 x.2.2.1 x.2.2.2.1) ⟨fun _=>(Sum.inl ()),fun x=>(Sum.inr (x.1,x.2.1)),()⟩ N
def T39(N:Nat):FT:=(39,jl [(.sl uS1),.bool] [(.int .i64),.bool] fun x=>jO N x.1 x.2.1)::(T74 N)
theorem K39(N:Nat):AT (T39 N):=fnA qd (K74 N) (.two .auto (.two .auto (.two (.two .auto (.one (.by_ (xN N)))) .auto))) Tryz.func39 (.cons (zcP N) .nil)
def T38(N:Nat):FT:=(38,jl [(.sl uS1),.bool] [(.int .i64),.bool] fun x=>je N x.1 x.2.1)::(T39 N)
theorem K38(N:Nat):AT (T38 N):=fnA qd (K39 N) .auto Tryz.func38 .nil
def T36(N:Nat):FT:=(36,jl [uS2,(.sl uS1)] [uS2,.bool] fun x=>qM N x.1 x.2.1)::(T38 N)
theorem K36(N:Nat):AT (T36 N):=fnA qd (K38 N) .auto Tryz.func36 .nil
def xM(N:Nat):LF:=zU [(5,.str)] ⟨.str::.u8::dr 3 ((.gs 0 1)::(.int .i64)::(.int .i64)::dr 27 []),[.seq .str 1 0 false]⟩ [(.exit 0,⟨dr 5 ((.gs 0 1)::dr 29 []),[.seq .str 1 0 false]⟩)] (lsT [.s,.c,.i,.i,(.l .str)] (fun x=>zX N N x.1 x.2.1 x.2.2.1 x.2.2.2.1 x.2.2.2.2.1) fun R o κ=>κ 0 [.l .str o])
theorem zcO(N:Nat):Lp Tryz.f71 [1,1,1,0,1,2] (xM N):=jt qd (K36 N) .auto .nil [.s,.c,.i,.i,(.l .str)] [[(.l .str)]] (fun m x=>zX N m x.1 x.2.1 x.2.2.1 x.2.2.2.1 x.2.2.2.2.1) ⟨fun x=>x.1,()⟩ N
def T71(N:Nat):FT:=(71,jl [.str,.u8] [(.sl .str)] fun x=>wQ N x.1 x.2.1)::(T36 N)
theorem K71(N:Nat):AT (T71 N):=fnA qd (K36 N) (.two .auto (.two .auto (.two .auto (.two (.two .auto (.one (.by_ (xM N)))) .auto)))) Tryz.func71 (.cons (zcO N) .nil)
def T72(N:Nat):FT:=(72,jl [.str] [(.int .u32),.bool] fun x=>j5 N x.1)::(T71 N)
theorem K72(N:Nat):AT (T72 N):=fnA qd (K71 N) .auto Tryz.func72 .nil
def xK(N:Nat):LF:=zU [(4,(.pair (.int .u32) (.int .u32)))] ⟨dr 4 ((.gs 0 1)::(.isl .str)::(.int .i64)::dr 51 []),[.seq (.pair (.int .u32) (.int .u32)) 1 0 false]⟩ [(.ret,⟨.drop::.drop::(.cst .qp)::(.cst (.bool false))::dr 54 [],[.seq (.pair (.int .u32) (.int .u32)) 1 0 false]⟩),(.exit 0,⟨dr 4 ((.gs 0 1)::dr 53 []),[.seq (.pair (.int .u32) (.int .u32)) 1 0 false]⟩)] (lsT [(.l .str),.i,(.l (.pair (.int .u32) (.int .u32)))] (fun x=>zE N N x.1 x.2.1 x.2.2.1) fun R o κ=>(zl o (fun a28=>κ 0 [.l (.pair (.int .u32) (.int .u32)) a28]) (fun b29=>κ 1 [.l (.pair (.int .u32) (.int .u32)) b29])))
theorem zcN(N:Nat):Lp Tryz.f37 [1,1,1,0,1,2] (xK N):=jt qd (K72 N) .auto .nil [(.l .str),.i,(.l (.pair (.int .u32) (.int .u32)))] [[(.l (.pair (.int .u32) (.int .u32)))],[(.l (.pair (.int .u32) (.int .u32)))]] (fun m x=>zE N m x.1 x.2.1 x.2.2.1) ⟨fun x=>(Sum.inl x.1),fun x=>(Sum.inr x.1),()⟩ N
def T37(N:Nat):FT:=(37,jl [.str] [(.sl (.pair (.int .u32) (.int .u32))),.bool] fun x=>wO N x.1)::(T72 N)
theorem K37(N:Nat):AT (T37 N):=fnA qd (K72 N) (.two .auto (.two .auto (.two .auto (.two (.two .auto (.one (.by_ (xK N)))) .auto)))) Tryz.func37 (.cons (zcN N) .nil)
def T40(N:Nat):FT:=(40,jl [.str] [(.int .i64),.bool] fun x=>zav N x.1)::(T37 N)
theorem K40(N:Nat):AT (T40 N):=fnA qd (K37 N) .auto Tryz.func40 .nil
def T17(N:Nat):FT:=(17,jl [.str,(.sl uS1)] [uS2,.bool] fun x=>zar N x.1 x.2.1)::(T40 N)
theorem K17(N:Nat):AT (T17 N):=fnA qd (K40 N) .auto Tryz.func17 .nil
def T6(N:Nat):FT:=(6,jl [(.sl .u8)] [uS2,.bool] fun x=>xo N x.1)::(T17 N)
theorem K6(N:Nat):AT (T6 N):=fnA qd (K17 N) .auto Tryz.func6 .nil
def zap(N:Nat):LF:=zU [] ⟨.drop::.drop::(.ptr 0 0 9)::(.ptr 1 0 9)::.drop::(.int .i64)::dr 81 [],[.cells [.str,(.int .i64),.str,(.isl (.pair (.int .u32) (.int .u32))),(.int .i64),(.int .i64),.bool,.u8,(.isl .u8)] 0,.cells [.str,(.int .i64),.str,(.isl (.pair (.int .u32) (.int .u32))),(.int .i64),(.int .i64),.bool,.u8,(.isl .u8)] 0]⟩ [(.ret,⟨dr 4 ((.cst (.bool false))::dr 82 []),[.cells [.str,(.int .i64),.str,(.isl (.pair (.int .u32) (.int .u32))),(.int .i64),(.int .i64),.bool,.u8,(.isl .u8)] 0,.cells [.str,(.int .i64),.str,(.isl (.pair (.int .u32) (.int .u32))),(.int .i64),(.int .i64),.bool,.u8,(.isl .u8)] 0]⟩),(.exit 0,⟨.drop::.drop::(.ptr 0 0 9)::(.ptr 1 0 9)::dr 83 [],[.cells [.str,(.int .i64),.str,(.isl (.pair (.int .u32) (.int .u32))),(.int .i64),(.int .i64),.bool,.u8,(.isl .u8)] 0,.cells [.str,(.int .i64),.str,(.isl (.pair (.int .u32) (.int .u32))),(.int .i64),(.int .i64),.bool,.u8,(.isl .u8)] 0]⟩)] (lsT [.i,.s,.i,.s,(.l (.pair (.int .u32) (.int .u32))),.i,.i,.b,.c,(.l .u8),.s,.i,.s,(.l (.pair (.int .u32) (.int .u32))),.i,.i,.b,.c,(.l .u8)] (fun x=>qL N N x.1 x.2.1 x.2.2.1 x.2.2.2.1 x.2.2.2.2.1 x.2.2.2.2.2.1 x.2.2.2.2.2.2.1 x.2.2.2.2.2.2.2.1 x.2.2.2.2.2.2.2.2.1 x.2.2.2.2.2.2.2.2.2.1 x.2.2.2.2.2.2.2.2.2.2.1 x.2.2.2.2.2.2.2.2.2.2.2.1 x.2.2.2.2.2.2.2.2.2.2.2.2.1 x.2.2.2.2.2.2.2.2.2.2.2.2.2.1 x.2.2.2.2.2.2.2.2.2.2.2.2.2.2.1 x.2.2.2.2.2.2.2.2.2.2.2.2.2.2.2.1 x.2.2.2.2.2.2.2.2.2.2.2.2.2.2.2.2.1 x.2.2.2.2.2.2.2.2.2.2.2.2.2.2.2.2.2.1 x.2.2.2.2.2.2.2.2.2.2.2.2.2.2.2.2.2.2.1) fun R o κ=>(zl o (fun a41=>κ 0 [.s a41.1,.i a41.2.1,.s a41.2.2.1,.l (.pair (.int .u32) (.int .u32)) a41.2.2.2.1,.i a41.2.2.2.2.1,.i a41.2.2.2.2.2.1,.b a41.2.2.2.2.2.2.1,.c a41.2.2.2.2.2.2.2.1,.l .u8 a41.2.2.2.2.2.2.2.2.1,.s a41.2.2.2.2.2.2.2.2.2.1,.i a41.2.2.2.2.2.2.2.2.2.2.1,.s a41.2.2.2.2.2.2.2.2.2.2.2.1,.l (.pair (.int .u32) (.int .u32)) a41.2.2.2.2.2.2.2.2.2.2.2.2.1,.i a41.2.2.2.2.2.2.2.2.2.2.2.2.2.1,.i a41.2.2.2.2.2.2.2.2.2.2.2.2.2.2.1,.b a41.2.2.2.2.2.2.2.2.2.2.2.2.2.2.2.1,.c a41.2.2.2.2.2.2.2.2.2.2.2.2.2.2.2.2.1,.l .u8 a41.2.2.2.2.2.2.2.2.2.2.2.2.2.2.2.2.2]) (fun b42=>κ 1 [.s b42.1,.i b42.2.1,.s b42.2.2.1,.l (.pair (.int .u32) (.int .u32)) b42.2.2.2.1,.i b42.2.2.2.2.1,.i b42.2.2.2.2.2.1,.b b42.2.2.2.2.2.2.1,.c b42.2.2.2.2.2.2.2.1,.l .u8 b42.2.2.2.2.2.2.2.2.1,.s b42.2.2.2.2.2.2.2.2.2.1,.i b42.2.2.2.2.2.2.2.2.2.2.1,.s b42.2.2.2.2.2.2.2.2.2.2.2.1,.l (.pair (.int .u32) (.int .u32)) b42.2.2.2.2.2.2.2.2.2.2.2.2.1,.i b42.2.2.2.2.2.2.2.2.2.2.2.2.2.1,.i b42.2.2.2.2.2.2.2.2.2.2.2.2.2.2.1,.b b42.2.2.2.2.2.2.2.2.2.2.2.2.2.2.2.1,.c b42.2.2.2.2.2.2.2.2.2.2.2.2.2.2.2.2.1,.l .u8 b42.2.2.2.2.2.2.2.2.2.2.2.2.2.2.2.2.2])))
theorem zdo(N:Nat):Lp Tryz.f7 [1,1,0,1,2] (zap N):=jt qd (K6 N) .auto .nil [.i,.s,.i,.s,(.l (.pair (.int .u32) (.int .u32))),.i,.i,.b,.c,(.l .u8),.s,.i,.s,(.l (.pair (.int .u32) (.int .u32))),.i,.i,.b,.c,(.l .u8)] [[.s,.i,.s,(.l (.pair (.int .u32) (.int .u32))),.i,.i,.b,.c,(.l .u8),.s,.i,.s,(.l (.pair (.int .u32) (.int .u32))),.i,.i,.b,.c,(.l .u8)],[.s,.i,.s,(.l (.pair (.int .u32) (.int .u32))),.i,.i,.b,.c,(.l .u8),.s,.i,.s,(.l (.pair (.int .u32) (.int .u32))),.i,.i,.b,.c,(.l .u8)]] (fun m x=>qL N m x.1 x.2.1 x.2.2.1 x.2.2.2.1 x.2.2.2.2.1 x.2.2.2.2.2.1 x.2.2.2.2.2.2.1 x.2.2.2.2.2.2.2.1 x.2.2.2.2.2.2.2.2.1 x.2.2.2.2.2.2.2.2.2.1 x.2.2.2.2.2.2.2.2.2.2.1 x.2.2.2.2.2.2.2.2.2.2.2.1 x.2.2.2.2.2.2.2.2.2.2.2.2.1 x.2.2.2.2.2.2.2.2.2.2.2.2.2.1 x.2.2.2.2.2.2.2.2.2.2.2.2.2.2.1 x.2.2.2.2.2.2.2.2.2.2.2.2.2.2.2.1 x.2.2.2.2.2.2.2.2.2.2.2.2.2.2.2.2.1 x.2.2.2.2.2.2.2.2.2.2.2.2.2.2.2.2.2.1 x.2.2.2.2.2.2.2.2.2.2.2.2.2.2.2.2.2.2.1) ⟨fun x=>(Sum.inl (x.1,x.2.1,x.2.2.1,x.2.2.2.1,x.2.2.2.2.1,x.2.2.2.2.2.1,x.2.2.2.2.2.2.1,x.2.2.2.2.2.2.2.1,x.2.2.2.2.2.2.2.2.1,x.2.2.2.2.2.2.2.2.2.1,x.2.2.2.2.2.2.2.2.2.2.1,x.2.2.2.2.2.2.2.2.2.2.2.1,x.2.2.2.2.2.2.2.2.2.2.2.2.1,x.2.2.2.2.2.2.2.2.2.2.2.2.2.1,x.2.2.2.2.2.2.2.2.2.2.2.2.2.2.1,x.2.2.2.2.2.2.2.2.2.2.2.2.2.2.2.1,x.2.2.2.2.2.2.2.2.2.2.2.2.2.2.2.2.1,x.2.2.2.2.2.2.2.2.2.2.2.2.2.2.2.2.2.1)),fun x=>(Sum.inr (x.1,x.2.1,x.2.2.1,x.2.2.2.1,x.2.2.2.2.1,x.2.2.2.2.2.1,x.2.2.2.2.2.2.1,x.2.2.2.2.2.2.2.1,x.2.2.2.2.2.2.2.2.1,x.2.2.2.2.2.2.2.2.2.1,x.2.2.2.2.2.2.2.2.2.2.1,x.2.2.2.2.2.2.2.2.2.2.2.1,x.2.2.2.2.2.2.2.2.2.2.2.2.1,x.2.2.2.2.2.2.2.2.2.2.2.2.2.1,x.2.2.2.2.2.2.2.2.2.2.2.2.2.2.1,x.2.2.2.2.2.2.2.2.2.2.2.2.2.2.2.1,x.2.2.2.2.2.2.2.2.2.2.2.2.2.2.2.2.1,x.2.2.2.2.2.2.2.2.2.2.2.2.2.2.2.2.2.1)),()⟩ N
def T7(N:Nat):FT:=(7,jl [uS2,uS2] [.bool] fun x=>zao N x.1 x.2.1)::(T6 N)
theorem K7(N:Nat):AT (T7 N):=fnA qd (K6 N) (.two .auto (.two .auto (.two (.two .auto (.one (.by_ (zap N)))) .auto))) Tryz.func7 (.cons (zdo N) .nil)
def jV(N:Nat):LF:=zU [] ⟨(.isl .u8)::.drop::.drop::(.gs 0 1)::(.ptr 1 0 9)::dr 17 ((.int .i64)::(.int .i64)::dr 20 []),[.seq .u8 1 0 true,.gone]⟩ [(.exit 0,⟨(.isl .u8)::dr 3 ((.ptr 1 0 9)::dr 39 []),[.seq .u8 1 0 true,.gone]⟩)] (lsT [(.l .u8),.i,.i,(.l .u8)] (fun x=>zJ N N x.1 x.2.1 x.2.2.1 x.2.2.2.1) fun R o κ=>κ 0 [.l .u8 o.1,.l .u8 o.2])
theorem zaf(N:Nat):Lp Tryz.f3 [1,1,1,1,0,1,2] (jV N):=jt qd (K7 N) .auto .nil [(.l .u8),.i,.i,(.l .u8)] [[(.l .u8),(.l .u8)]] (fun m x=>zJ N m x.1 x.2.1 x.2.2.1 x.2.2.2.1) ⟨fun x=>(x.1,x.2.1),()⟩ N
def jg(N:Nat):FT:=(T7 N)
theorem zbi(N:Nat):zmD Tryz.prog glA (zhk (jg N)) hkA:=zsK qd rfl (K7 N)
def jh(N:Nat):Pl:=(.two .auto (.two .auto (.two .auto (.two .auto (.two (.two .auto (.one (.by_ (jV N)))) .auto)))))
theorem zbO(N:Nat)(x:El (zae [(.sl .u8)])):zaa Tryz.prog glA (zhk (jg N)) 1500 (jh N) 3 (qQ [(.sl .u8)] x) [] (zda [.bool])=qj N x.1:=by kernel_rfl
theorem zbN(N:Nat):∀ fn b,Tryz.prog.funcs[3]?=some fn->fn.body=some b->wH Tryz.prog glA hkA (jh N) b:=zf7 Tryz.func3 (by kernel_rfl) (.cons (zaf N) .nil)
end Go.Proofs.YtifkhebojenhnaaGreatDoor
