/- The functions of the law: their models, and that the program does what they say. -/
import Derived.Test.YtomeffdgkllfeaaGreatDoorSbHp
import Derived.Test.YtomeffdgkllfeaaGreatDoorB5
set_option linter.unusedVariables false
set_option linter.unusedSimpArgs false
set_option maxRecDepth 100000
namespace Go.Proofs.YtomeffdgkllfeaaGreatDoor
open Go.Proofs.Model Go Go.Gx Go.Mx Go.Sx
def gn:Nat->List PB->List PB|0,l=>l|n+1,l=>.gone::gn n l
def hkA:z7:=zt (zt (zt (zt (zt (zt (zex tab) 5 zlj) 26 zj5) 71 zaI) 101 zbH) 297 zgM) 370 (zdV 9)
theorem wB:zll Tryz.prog hkA [370,297,101,71,26,5]:=xx (xx (xx (xx (xx (xx (zlv (by kernel_rfl)) 5 zlj) 26 _) 71 _) 101 _) 297 _) 370 _
abbrev AT(T:FT):Prop:=zhu Tryz.prog glA hkA T
abbrev Lp(fn:Func)(p:List Nat)(g:LF):Prop:=zgj Tryz.prog glA hkA (.loop (roundOf fn p)) g
def T0:FT:=[(5,kl [] [.bool] fun _=>some (true,())),(26,zqk),(71,zjF),(101,zkd),(297,znw),(370,zkO),(131,zhF),(428,zn8),(430,zhF),(452,zjo)]
theorem K0:zhu Tryz.prog glA hkA T0:=⟨zlc rfl,ziv rfl,zfj rfl,zfR rfl,zgL rfl,zf5 rfl,zbA rfl,zg9 rfl,zbA rfl,ze7 rfl,trivial⟩
def zqC(N:Nat):FT:=(220,kl [(.int .i64)] [.str] fun x=>qZ N x.1)::T0
theorem zqP(N:Nat):AT (zqC N):=fnA wB K0 .auto Tryz.func220 .nil
def zqB(N:Nat):FT:=(130,kl [(.int .u64)] [(.int .i64)] fun x=>qy N x.1)::(zqC N)
theorem zqO(N:Nat):AT (zqB N):=fnA wB (zqP N) .auto Tryz.func130 .nil
def zqE(N:Nat):FT:=(288,kl [(.int .i64)] [(.int .i64)] fun x=>qQ N x.1)::(zqB N)
theorem zqQ(N:Nat):AT (zqE N):=fnA wB (zqO N) .auto Tryz.func288 .nil
def zqF(N:Nat):FT:=(289,kl [.bool] [(.int .i64)] fun x=>qP N x.1)::(zqE N)
theorem zqR(N:Nat):AT (zqF N):=fnA wB (zqQ N) .auto Tryz.func289 .nil
def zqD(N:Nat):FT:=(221,kl [(.int .u64)] [(.int .i64)] fun x=>zf N x.1)::(zqF N)
theorem zqy(N:Nat):AT (zqD N):=fnA wB (zqR N) .auto Tryz.func221 .nil
def j2(N:Nat):LF:=jH [] ⟨(.sl 0 0 false)::(.int .u64)::.drop::.drop::(.int .i64)::dr 162 [],[.seq .u8 0 0 true]⟩ [(.exit 0,⟨(.sl 0 0 false)::(.int .u64)::.drop::.drop::(.int .i64)::dr 162 [],[.seq .u8 0 0 true]⟩)] (lsT [.n,.n,.i,.i,(.l .u8)] (fun x=>za N N x.1 x.2.1 x.2.2.1 x.2.2.2.1 x.2.2.2.2.1) fun R o κ=>κ 0 [.n o.1,.n o.2.1,.i o.2.2.1,.i o.2.2.2.1,.l .u8 o.2.2.2.2])
theorem xQ(N:Nat):Lp Tryz.f222 [1,0,2] (j2 N):=zb7 wB (zqy N) .auto .nil [.n,.n,.i,.i,(.l .u8)] [[.n,.n,.i,.i,(.l .u8)]] (fun m x=>za N m x.1 x.2.1 x.2.2.1 x.2.2.2.1 x.2.2.2.2.1) ⟨fun x=>(x.1,x.2.1,x.2.2.1,x.2.2.2.1,x.2.2.2.2.1),()⟩ N
def zqA(N:Nat):FT:=(102,kl [(.int .u32)] [.str] fun x=>ze N x.1)::(zqD N)
theorem zqN(N:Nat):AT (zqA N):=fnA wB (zqy N) (.two .auto (.two (.cal 2 135 (.two .auto (.two (.cal 2 177 (.two .auto (.two (.two .auto (.two (.two .auto (.two .auto (.two .auto (.two (.cal 3 222 (.two .auto (.two (.one (.by_ (j2 N))) .auto)) .auto) .auto)))) .auto)) .auto)) .auto) .auto)) .auto) .auto)) Tryz.func102 (.cons (xQ N) .nil)
def T74(N:Nat):FT:=(74,kl [.str] [(.int .u32),.bool] fun x=>jM N x.1)::(zqA N)
theorem K74(N:Nat):AT (T74 N):=fnA wB (zqN N) .auto Tryz.func74 .nil
def T75(N:Nat):FT:=(75,kl [(.sl .u8)] [(.sl .u8)] fun x=>zw N x.1)::(T74 N)
theorem K75(N:Nat):AT (T75 N):=zra wB (K74 N) .auto Tryz.func75 .nil
def jF(N:Nat):LF:=jH [] ⟨(.int .u32)::.drop::.drop::.str::dr 18 [],[]⟩ [(.exit 0,⟨(.int .u32)::.drop::.drop::.str::dr 18 [],[]⟩)] (lsT [.i,.s] (fun x=>zF N N x.1 x.2.1) fun R o κ=>κ 0 [.i o.1,.s o.2])
theorem xF(N:Nat):Lp Tryz.f76 [1,1,0,2] (jF N):=zb7 wB (K75 N) .auto .nil [.i,.s] [[.i,.s]] (fun m x=>zF N m x.1 x.2.1) ⟨fun x=>(x.1,x.2.1),()⟩ N
def T76(N:Nat):FT:=(76,kl [(.int .u32)] [.str] fun x=>qX N x.1)::(T75 N)
theorem K76(N:Nat):AT (T76 N):=fnA wB (K75 N) (.two .auto (.two .auto (.two (.one (.by_ (jF N))) .auto))) Tryz.func76 (.cons (xF N) .nil)
def j4(N:Nat):LF:=jH [] ⟨.str::dr 3 ((.int .u64)::(.int .i64)::dr 38 []),[]⟩ [(.ret,⟨.drop::.drop::(.cst (.int .u32 (0:Int)))::(.cst (.bool false))::dr 40 [],[]⟩),(.exit 0,⟨.str::dr 3 ((.int .u64)::dr 39 []),[]⟩)] (lsT [.s,.i,.i] (fun x=>zL N N x.1 x.2.1 x.2.2.1) fun R o κ=>(wQ o (fun a8=>κ 0 []) (fun b9=>κ 1 [.s b9.1,.i b9.2])))
theorem xS(N:Nat):Lp Tryz.f57 [1,1,1,0,1,2] (j4 N):=zb7 wB (K76 N) .auto .nil [.s,.i,.i] [[],[.s,.i]] (fun m x=>zL N m x.1 x.2.1 x.2.2.1) ⟨fun _=>(Sum.inl ()),fun x=>(Sum.inr (x.1,x.2.1)),()⟩ N
def T57(N:Nat):FT:=(57,kl [.str] [(.int .u32),.bool] fun x=>jr N x.1)::(T76 N)
theorem K57(N:Nat):AT (T57 N):=fnA wB (K76 N) (.two .auto (.two .auto (.two .auto (.two (.two .auto (.one (.by_ (j4 N)))) .auto)))) Tryz.func57 (.cons (xS N) .nil)
def T53(N:Nat):FT:=(53,zmz uK3 [] [.bool] fun p x=>zv N p)::(T57 N)
theorem K53(N:Nat):AT (T53 N):=fnP wB (K57 N) .auto Tryz.func53 .nil
def T54(N:Nat):FT:=(54,zmz uK3 [] [(.int .i64),.bool] fun p x=>zX N p)::(T53 N)
theorem K54(N:Nat):AT (T54 N):=fnP wB (K53 N) .auto Tryz.func54 .nil
def T95(N:Nat):FT:=(95,kl [(.sl .u8),(.sl .u8)] [.bool] fun x=>kd N x.1 x.2.1)::(T54 N)
theorem K95(N:Nat):AT (T95 N):=fnA wB (K54 N) .auto Tryz.func95 .nil
def T99(N:Nat):FT:=(99,kl [(.sl .u8),(.sl .u8)] [.bool] fun x=>jk N x.1 x.2.1)::(T95 N)
theorem K99(N:Nat):AT (T99 N):=fnA wB (K95 N) .auto Tryz.func99 .nil
def T72(N:Nat):FT:=(72,kl [(.sl .u8),(.sl .u8)] [(.sl .u8),.bool] fun x=>qx N x.1 x.2.1)::(T99 N)
theorem K72(N:Nat):AT (T72 N):=fnA wB (K99 N) .auto Tryz.func72 .nil
def qh(N:Nat):LF:=jH [] ⟨(.isl .u8)::.u8::dr 3 ((.int .i64)::dr 14 []),[]⟩ [(.ret,⟨dr 4 ((.int .i64)::dr 15 []),[]⟩),(.exit 0,⟨dr 20 [],[]⟩)] (lsT [(.l .u8),.c,.i] (fun x=>zi N N x.1 x.2.1 x.2.2.1) fun R o κ=>(wQ o (fun a7=>κ 0 [.i a7]) (fun b8=>κ 1 [])))
theorem jL(N:Nat):Lp Tryz.f100 [1,0,1,2] (qh N):=zb7 wB (K72 N) .auto .nil [(.l .u8),.c,.i] [[.i],[]] (fun m x=>zi N m x.1 x.2.1 x.2.2.1) ⟨fun x=>(Sum.inl x.1),fun _=>(Sum.inr ()),()⟩ N
def zqz(N:Nat):FT:=(100,kl [(.sl .u8),.u8] [(.int .i64)] fun x=>qa N x.1 x.2.1)::(T72 N)
theorem zqM(N:Nat):AT (zqz N):=fnA wB (K72 N) (.two .auto (.two (.two .auto (.one (.by_ (qh N)))) .auto)) Tryz.func100 (.cons (jL N) .nil)
def T73(N:Nat):FT:=(73,kl [(.sl .u8),.u8] [(.int .i64)] fun x=>zV N x.1 x.2.1)::(zqz N)
theorem K73(N:Nat):AT (T73 N):=fnA wB (zqM N) .auto Tryz.func73 .nil
def T55(N:Nat):FT:=(55,kl [(.sl .u8)] [(.int .i64),.bool] fun x=>qz N x.1)::(T73 N)
theorem K55(N:Nat):AT (T55 N):=fnA wB (K73 N) .auto Tryz.func55 .nil
def T56(N:Nat):FT:=(56,zmz uK3 [(.int .i64),(.sl .u8),(.int .i64)] [(.pair (.int .i64) (.sl .u8)),.bool] fun p x=>zn N p x.1 x.2.1 x.2.2.1)::(T55 N)
theorem K56(N:Nat):AT (T56 N):=fnP wB (K55 N) .auto Tryz.func56 .nil
def T44(N:Nat):FT:=(44,zmz uK3 [] [(.pair (.int .i64) (.sl .u8)),.bool] fun p x=>zj N p)::(T56 N)
theorem K44(N:Nat):AT (T44 N):=fnP wB (K56 N) .auto Tryz.func44 .nil
def T30(N:Nat):FT:=(30,zmz uK3 [] [(.int .i64)] fun p x=>zW N p)::(T44 N)
theorem K30(N:Nat):AT (T30 N):=fnP wB (K44 N) .auto Tryz.func30 .nil
def qN(N:Nat):LF:=jH [] ⟨(.yld 4)::(.ptr 3 0 1)::dr 16 [],[.cells [(.isl .u8),(.int .i64),(.int .i64),(.int .i64)] 0,.gone,.cells [(.gs 8 1)] 0,.cells [(.ptr 0 0 4)] 0,.loop [.drop,.drop,.drop,.drop,.drop,(.ptr 2 0 1),.drop,.drop,.drop,.drop,.drop,.drop,.drop,.drop,.drop,.drop,.drop,.drop,.drop,.drop,.drop] 240 0,.gone,.gone,.gone,.seq (.pair (.int .i64) (.sl .u8)) 1 0 false]⟩ [(.ret,⟨dr 18 [],[.cells [(.isl .u8),(.int .i64),(.int .i64),(.int .i64)] 0,.gone,.cells [(.gs 8 1)] 0,.cells [(.ptr 0 0 4)] 0,.loop [.drop,.drop,.drop,.drop,.drop,(.ptr 2 0 1),.drop,.drop,.drop,.drop,.drop,.drop,.drop,.drop,.drop,.drop,.drop,.drop,.drop,.drop,.drop] 240 0,.gone,.gone,.gone,.seq (.pair (.int .i64) (.sl .u8)) 1 0 false]⟩)] (lsT [(.l .u8),.i,.i,.i,(.l (.pair (.int .i64) (.sl .u8)))] (fun x=>zK N N x.1 x.2.1 x.2.2.1 x.2.2.2.1 x.2.2.2.2.1) fun R o κ=>κ 0 [.l .u8 o.1,.i o.2.1,.i o.2.2.1,.i o.2.2.2.1,.l (.pair (.int .i64) (.sl .u8)) o.2.2.2.2])
theorem xR(N:Nat):Lp Tryz.f43 [2] (qN N):=zb7 wB (K30 N) .auto .nil [(.l .u8),.i,.i,.i,(.l (.pair (.int .i64) (.sl .u8)))] [[(.l .u8),.i,.i,.i,(.l (.pair (.int .i64) (.sl .u8)))]] (fun m x=>zK N m x.1 x.2.1 x.2.2.1 x.2.2.2.1 x.2.2.2.2.1) ⟨fun x=>(x.1,x.2.1,x.2.2.1,x.2.2.2.1,x.2.2.2.2.1),()⟩ N
def T15(N:Nat):FT:=(15,kl [(.sl .u8)] [(.sl (.pair (.int .i64) (.sl .u8))),(.int .i64)] fun x=>jN N x.1)::(T30 N)
theorem K15(N:Nat):AT (T15 N):=fnA wB (K30 N) (.two .auto (.two .auto (.two .auto (.two .auto (.two (.two .auto (.one (.by_ (znW Tryz.prog glA (zdf (T30 N)) Tryz.f15 [1,1,1,1,0,1,2] 240 (.cal 0 43 (.one (.two .auto (.by_ (qN N)))) .auto))))) .auto))))) Tryz.func15 (.cons (zro wB (K30 N) Tryz.f15 [1,1,1,1,0,1,2] 240 (.cal 0 43 (.one (.two .auto (.by_ (qN N)))) .auto) (.cons (xR N) .nil)) .nil)
def kE(N:Nat):LF:=jH [] ⟨(.isl .u8)::dr 4 ((.int .i64)::dr 22 []),[]⟩ [(.ret,⟨dr 4 ((.int .i64)::dr 23 []),[]⟩),(.exit 0,⟨dr 28 [],[]⟩)] (lsT [(.l .u8),.i] (fun x=>qe N N x.1 x.2.1) fun R o κ=>(wQ o (fun a6=>κ 0 [.i a6]) (fun b7=>κ 1 [])))
theorem zbY(N:Nat):Lp Tryz.f45 [1,0,1,2] (kE N):=zb7 wB (K15 N) .auto .nil [(.l .u8),.i] [[.i],[]] (fun m x=>qe N m x.1 x.2.1) ⟨fun x=>(Sum.inl x.1),fun _=>(Sum.inr ()),()⟩ N
def T45(N:Nat):FT:=(45,kl [(.sl .u8),(.int .i64)] [(.int .i64)] fun x=>ke N x.1 x.2.1)::(T15 N)
theorem K45(N:Nat):AT (T45 N):=fnA wB (K15 N) (.two .auto (.two (.two .auto (.one (.by_ (kE N)))) .auto)) Tryz.func45 (.cons (zbY N) .nil)
def ji(N:Nat):LF:=jH [] ⟨(.isl .u8)::dr 3 ((.int .i64)::(.int .i64)::dr 60 []),[]⟩ [(.exit 0,⟨(.isl .u8)::dr 3 ((.int .i64)::(.int .i64)::dr 60 []),[]⟩)] (lsT [(.l .u8),.i,.i] (fun x=>zB N N x.1 x.2.1 x.2.2.1) fun R o κ=>κ 0 [.l .u8 o.1,.i o.2.1,.i o.2.2])
theorem kK(N:Nat):Lp Tryz.f46 [1,1,1,1,0,2] (ji N):=zb7 wB (K45 N) .auto .nil [(.l .u8),.i,.i] [[(.l .u8),.i,.i]] (fun m x=>zB N m x.1 x.2.1 x.2.2.1) ⟨fun x=>(x.1,x.2.1,x.2.2.1),()⟩ N
def T46(N:Nat):FT:=(46,kl [(.sl .u8)] [(.int .i64),.bool] fun x=>qA N x.1)::(T45 N)
theorem K46(N:Nat):AT (T46 N):=fnA wB (K45 N) (.two .auto (.two .auto (.two .auto (.two .auto (.two (.one (.by_ (ji N))) .auto))))) Tryz.func46 (.cons (kK N) .nil)
def jw(N:Nat):LF:=jH [(4,(.pair (.int .i64) (.sl .u8)))] ⟨(.isl .u8)::dr 3 ((.gs 0 1)::(.int .i64)::dr 71 []),[.seq (.pair (.int .i64) (.sl .u8)) 1 0 false]⟩ [(.ret,⟨.drop::.drop::(.gs 0 1)::(.int .i64)::dr 73 [],[.seq (.pair (.int .i64) (.sl .u8)) 1 0 false]⟩),(.exit 0,⟨dr 4 ((.gs 0 1)::dr 72 []),[.seq (.pair (.int .i64) (.sl .u8)) 1 0 false]⟩)] (lsT [(.l .u8),.i,(.l (.pair (.int .i64) (.sl .u8)))] (fun x=>zC N N x.1 x.2.1 x.2.2.1) fun R o κ=>(wQ o (fun a22=>κ 0 [.i a22.1,.l (.pair (.int .i64) (.sl .u8)) a22.2]) (fun b23=>κ 1 [.l (.pair (.int .i64) (.sl .u8)) b23])))
theorem kS(N:Nat):Lp Tryz.f33 [1,1,1,0,2] (jw N):=zb7 wB (K46 N) .auto .nil [(.l .u8),.i,(.l (.pair (.int .i64) (.sl .u8)))] [[.i,(.l (.pair (.int .i64) (.sl .u8)))],[(.l (.pair (.int .i64) (.sl .u8)))]] (fun m x=>zC N m x.1 x.2.1 x.2.2.1) ⟨fun x=>(Sum.inl (x.1,x.2.1)),fun x=>(Sum.inr x.1),()⟩ N
def T33(N:Nat):FT:=(33,kl [(.sl .u8)] [(.sl (.pair (.int .i64) (.sl .u8))),(.int .i64)] fun x=>qY N x.1)::(T46 N)
theorem K33(N:Nat):AT (T33 N):=fnA wB (K46 N) (.two .auto (.two .auto (.two .auto (.two (.one (.by_ (jw N))) .auto)))) Tryz.func33 (.cons (kS N) .nil)
def j6(N:Nat):LF:=jH [(4,(.pair (.int .i64) (.sl .u8)))] ⟨(.isl .u8)::dr 3 ((.gs 0 1)::dr 18 []),[.seq (.pair (.int .i64) (.sl .u8)) 1 0 false]⟩ [(.ret,⟨.drop::.drop::(.gs 0 1)::(.int .i64)::dr 19 [],[.seq (.pair (.int .i64) (.sl .u8)) 1 0 false]⟩)] (lsT [(.l .u8),(.l (.pair (.int .i64) (.sl .u8)))] (fun x=>zM N N x.1 x.2.1) fun R o κ=>κ 0 [.i o.1,.l (.pair (.int .i64) (.sl .u8)) o.2])
theorem xT(N:Nat):Lp Tryz.f18 [1,1,2] (j6 N):=zb7 wB (K33 N) .auto .nil [(.l .u8),(.l (.pair (.int .i64) (.sl .u8)))] [[.i,(.l (.pair (.int .i64) (.sl .u8)))]] (fun m x=>zM N m x.1 x.2.1) ⟨fun x=>(x.1,x.2.1),()⟩ N
def T18(N:Nat):FT:=(18,kl [(.sl .u8)] [(.sl (.pair (.int .i64) (.sl .u8))),(.int .i64)] fun x=>jO N x.1)::(T33 N)
theorem K18(N:Nat):AT (T18 N):=fnA wB (K33 N) (.two .auto (.two .auto (.one (.by_ (j6 N))))) Tryz.func18 (.cons (xT N) .nil)
def kG(N:Nat):LF:=jH [] ⟨(.isl (.sl .u8))::(.isl .u8)::dr 3 ((.int .i64)::(.int .i64)::dr 31 []),[]⟩ [(.exit 0,⟨(.isl (.sl .u8))::(.isl .u8)::dr 3 ((.int .i64)::dr 32 []),[]⟩)] (lsT [(.l (.sl .u8)),(.l .u8),.i,.i] (fun x=>zJ N N x.1 x.2.1 x.2.2.1 x.2.2.2.1) fun R o κ=>κ 0 [.l (.sl .u8) o.1,.l .u8 o.2.1,.i o.2.2])
theorem zbZ(N:Nat):Lp Tryz.f4 [1,1,0,1,2] (kG N):=zb7 wB (K18 N) .auto .nil [(.l (.sl .u8)),(.l .u8),.i,.i] [[(.l (.sl .u8)),(.l .u8),.i]] (fun m x=>zJ N m x.1 x.2.1 x.2.2.1 x.2.2.2.1) ⟨fun x=>(x.1,x.2.1,x.2.2.1),()⟩ N
def T4(N:Nat):FT:=(4,kl [(.sl (.sl .u8)),(.sl .u8)] [.bool] fun x=>xU N x.1 x.2.1)::(T18 N)
theorem K4(N:Nat):AT (T4 N):=fnA wB (K18 N) (.two .auto (.two .auto (.two (.two .auto (.one (.by_ (kG N)))) .auto))) Tryz.func4 (.cons (zbZ N) .nil)
def T16(N:Nat):FT:=(16,kl [(.pair (.int .i64) (.int .i64))] [(.int .i64)] fun x=>qO N x.1)::(T4 N)
theorem K16(N:Nat):AT (T16 N):=fnA wB (K4 N) .auto Tryz.func16 .nil
def wc(N:Nat):LF:=jH [] ⟨dr 6 ((.ptr 4 0 2)::.drop::(.int .i64)::dr 14 ((.isl (.sl .u8))::(.int .i64)::(.int .i64)::dr 18 [])),(gn 4 [.cells [(.int .i64),(.int .i64)] 0])⟩ [(.exit 0,⟨dr 8 ((.int .i64)::dr 35 []),(gn 4 [.cells [(.int .i64),(.int .i64)] 0])⟩)] (lsT [.i,(.l (.sl .u8)),.i,.i,.i,.i] (fun x=>zO N N x.1 x.2.1 x.2.2.1 x.2.2.2.1 x.2.2.2.2.1 x.2.2.2.2.2.1) fun R o κ=>κ 0 [.i o.1,.i o.2.1,.i o.2.2])
theorem xW(N:Nat):Lp Tryz.f6 [1,1,1,1,0,1,2] (wc N):=zb7 wB (K16 N) .auto .nil [.i,(.l (.sl .u8)),.i,.i,.i,.i] [[.i,.i,.i]] (fun m x=>zO N m x.1 x.2.1 x.2.2.1 x.2.2.2.1 x.2.2.2.2.1 x.2.2.2.2.2.1) ⟨fun x=>(x.1,x.2.1,x.2.2.1),()⟩ N
def T6(N:Nat):FT:=(6,kl [uB2,(.sl (.sl .u8))] [(.int .i64)] fun x=>qC N x.1 x.2.1)::(T16 N)
theorem K6(N:Nat):AT (T6 N):=fnA wB (K16 N) (.two .auto (.two .auto (.two .auto (.two .auto (.two (.two .auto (.one (.by_ (wc N)))) .auto))))) Tryz.func6 (.cons (xW N) .nil)
def T32(N:Nat):FT:=(32,kl [(.int .i64),(.int .i64)] [.bool] fun x=>kf N x.1 x.2.1)::(T6 N)
theorem K32(N:Nat):AT (T32 N):=fnA wB (K6 N) .auto Tryz.func32 .nil
def T17(N:Nat):FT:=(17,kl [(.int .i64),(.int .i64),(.int .i64)] [.bool] fun x=>kg N x.1 x.2.1 x.2.2.1)::(T32 N)
theorem K17(N:Nat):AT (T17 N):=fnA wB (K32 N) .auto Tryz.func17 .nil
def j8(N:Nat):LF:=jH [] ⟨(.int .i64)::.drop::(.isl (.sl .u8))::dr 4 ((.int .i64)::(.int .i64)::dr 33 []),[]⟩ [(.exit 0,⟨dr 7 ((.int .i64)::dr 34 []),[]⟩)] (lsT [.i,(.l (.sl .u8)),.i,.i] (fun x=>zN N N x.1 x.2.1 x.2.2.1 x.2.2.2.1) fun R o κ=>κ 0 [.i o])
theorem xV(N:Nat):Lp Tryz.f7 [1,1,1,0,1,2] (j8 N):=zb7 wB (K17 N) .auto .nil [.i,(.l (.sl .u8)),.i,.i] [[.i]] (fun m x=>zN N m x.1 x.2.1 x.2.2.1 x.2.2.2.1) ⟨fun x=>x.1,()⟩ N
def T7(N:Nat):FT:=(7,kl [(.int .i64),(.int .i64),(.sl (.sl .u8))] [(.int .i64)] fun x=>qB N x.1 x.2.1 x.2.2.1)::(T17 N)
theorem K7(N:Nat):AT (T7 N):=fnA wB (K17 N) (.two .auto (.two .auto (.two .auto (.two (.two .auto (.one (.by_ (j8 N)))) .auto)))) Tryz.func7 (.cons (xV N) .nil)
def qf(N:Nat):FT:=(T7 N)
theorem kJ(N:Nat):zi1 Tryz.prog glA (zdf (qf N)) hkA:=zom wB rfl (K7 N)
def qg(N:Nat):Pl:=.auto
theorem kR(N:Nat)(x:El (kb [uB2,(.sl (.sl .u8))])):jE Tryz.prog glA (zdf (qf N)) 1500 (qg N) 3 (qn [uB2,(.sl (.sl .u8))] x) [] (zan [.bool])=zR N x.1 x.2.1:=by kernel_rfl
theorem kQ(N:Nat):∀ fn b,Tryz.prog.funcs[3]?=some fn->fn.body=some b->ja Tryz.prog glA hkA (qg N) b:=zeC Tryz.func3 (by kernel_rfl) .nil
end Go.Proofs.YtomeffdgkllfeaaGreatDoor
