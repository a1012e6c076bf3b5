/- The functions of the law: their models, and that the program does what they say. -/
import Derived.Test.YtljnndccimlnlaaGreatDoorRoHp
import Derived.Test.YtljnndccimlnlaaGreatDoorRm
import Derived.Test.YtljnndccimlnlaaGreatDoorB5
set_option linter.unusedVariables false
set_option linter.unusedSimpArgs false
set_option maxRecDepth 100000
namespace Go.Proofs.YtljnndccimlnlaaGreatDoor
open Go.Proofs.Model Go Go.Gx Go.Mx Go.Sx
def hkA:jk:=qe (qe (qe (qe (qe (zlJ tab) 7 zol) 37 zda) 81 ziz) 95 zfT) 124 (zgz 9)
theorem zP:zoW Tryz.prog hkA [124,95,81,37,7]:=zdd (zdd (zdd (zdd (zdd (zov (by kernel_rfl)) 7 zol) 37 _) 81 _) 95 _) 124 _
abbrev AT (T:FT):Prop:=zj6 Tryz.prog glA hkA T
abbrev Lp (fn:Func) (p:List Nat) (g:LF):Prop:=znF Tryz.prog glA hkA (.loop (roundOf fn p)) g
def T0:FT:=[(7,qD [] [.bool] fun _=>some (true,())),(37,zmw),(81,zrd),(95,zmX),(124,znj),(98,zj8),(172,zmA),(181,zj8)]
theorem K0:zj6 Tryz.prog glA hkA T0:=⟨zmG rfl,ziQ rfl,zjp rfl,ziW rfl,ziq rfl,zet rfl,zhS rfl,zet rfl,trivial⟩
def T34 (N:Nat):FT:=(34,zkn (.pair (.sl .u8) (.int .i64)) [] [(.sl .u8)] fun p x=>zg N p) :: T0
theorem K34 (N:Nat):AT (T34 N):=fnP zP K0 .auto Tryz.func34 .nil
def T38 (N:Nat):FT:=(38,qD [(.sl .u8),(.sl .u8)] [.bool] fun x=>zaJ N x.1 x.2.1) :: (T34 N)
theorem K38 (N:Nat):AT (T38 N):=fnA zP (K34 N) .auto Tryz.func38 .nil
def T24 (N:Nat):FT:=(24,qD [(.sl .u8),(.sl .u8)] [.bool] fun x=>zj N x.1 x.2.1) :: (T38 N)
theorem K24 (N:Nat):AT (T24 N):=fnA zP (K38 N) .auto Tryz.func24 .nil
def T20 (N:Nat):FT:=(20,zkn (.pair (.sl .u8) (.int .i64)) [.str] [.bool] fun p x=>za N p x.1) :: (T24 N)
theorem K20 (N:Nat):AT (T20 N):=fnP zP (K24 N) .auto Tryz.func20 .nil
def T23 (N:Nat):FT:=(23,zkn (.pair (.sl .u8) (.int .i64)) [.str] [.str,.bool] fun p x=>zv N p x.1) :: (T20 N)
theorem K23 (N:Nat):AT (T23 N):=fnP zP (K20 N) .auto Tryz.func23 .nil
def zuY (N:Nat):FT:=(134,qD [(.sl .u8)] [(.int .i32),(.int .i64)] fun x=>zM N x.1) :: (T23 N)
theorem zuJ (N:Nat):AT (zuY N):=fnA zP (K23 N) .auto Tryz.func134 .nil
def qK (N:Nat):LF:=zY [] ⟨(.isl .u8) :: dr 5 ((.isl .u8) :: (.int .i64) :: (.cst (.int .i64 (0:Int))) :: dr 13 []),[]⟩ [(.ret,⟨.drop :: .drop :: (.int .i32) :: (.cst (.int .i64 (1:Int))) :: dr 18 [],[]⟩),(.exit 0,⟨(.isl .u8) :: dr 21 [],[]⟩)] (lsT [(.l .u8),(.l .u8),.i] (fun x=>zC N N x.1 x.2.1 x.2.2.1) fun R o κ=>(zz o (fun a7=>κ 0 [.i a7]) (fun b8=>κ 1 [.l .u8 b8])))
theorem wV (N:Nat):Lp Tryz.f118 [1,0,1,2] (qK N):=jL zP (zuJ N) .auto .nil [(.l .u8),(.l .u8),.i] [[.i],[(.l .u8)]] (fun m x=>zC N m x.1 x.2.1 x.2.2.1) ⟨fun x=>(Sum.inl x.1),fun x=>(Sum.inr x.1),()⟩ N
def zu0 (N:Nat):FT:=(118,qD [(.sl .u8)] [(.int .i32),(.int .i64)] fun x=>zB N x.1) :: (zuY N)
theorem zu7 (N:Nat):AT (zu0 N):=fnA zP (zuJ N) (.two .auto (.two (.two .auto (.one (.by_ (qK N)))) .auto)) Tryz.func118 (.cons (wV N) .nil)
def T60 (N:Nat):FT:=(60,qD [(.int .i32)] [.bool] fun x=>zL N x.1) :: (zu0 N)
theorem K60 (N:Nat):AT (T60 N):=fnA zP (zu7 N) .auto Tryz.func60 .nil
def zuG (N:Nat):FT:=(149,qD [(.int .i64)] [.str] fun x=>j6 N x.1) :: (T60 N)
theorem zvR (N:Nat):AT (zuG N):=fnA zP (K60 N) .auto Tryz.func149 .nil
def zuO (N:Nat):FT:=(165,qD [(.int .u64)] [(.int .i64)] fun x=>jv N x.1) :: (zuG N)
theorem zvF (N:Nat):AT (zuO N):=fnA zP (zvR N) .auto Tryz.func165 .nil
def zuz (N:Nat):FT:=(164,qD [(.int .i64)] [(.int .i64)] fun x=>jU N x.1) :: (zuO N)
theorem zvH (N:Nat):AT (zuz N):=fnA zP (zvF N) .auto Tryz.func164 .nil
def zuV (N:Nat):FT:=(166,qD [.bool] [(.int .i64)] fun x=>jT N x.1) :: (zuz N)
theorem zvv (N:Nat):AT (zuV N):=fnA zP (zvH N) .auto Tryz.func166 .nil
def zuD (N:Nat):FT:=(150,qD [(.int .u64)] [(.int .i64)] fun x=>zt N x.1) :: (zuV N)
theorem zuX (N:Nat):AT (zuD N):=fnA zP (zvv N) .auto Tryz.func150 .nil
def kK (N:Nat):LF:=zY [] ⟨(.sl 0 0 false) :: (.int .u64) :: .drop :: .drop :: (.int .i64) :: dr 162 [],[.seq .u8 0 0 true]⟩ [(.exit 0,⟨(.sl 0 0 false) :: (.int .u64) :: .drop :: .drop :: (.int .i64) :: dr 162 [],[.seq .u8 0 0 true]⟩)] (lsT [.n,.n,.i,.i,(.l .u8)] (fun x=>zf N N x.1 x.2.1 x.2.2.1 x.2.2.2.1 x.2.2.2.2.1) fun R o κ=>κ 0 [.n o.1,.n o.2.1,.i o.2.2.1,.i o.2.2.2.1,.l .u8 o.2.2.2.2])
theorem zcq (N:Nat):Lp Tryz.f151 [1,0,2] (kK N):=jL zP (zuX N) .auto .nil [.n,.n,.i,.i,(.l .u8)] [[.n,.n,.i,.i,(.l .u8)]] (fun m x=>zf N m x.1 x.2.1 x.2.2.1 x.2.2.2.1 x.2.2.2.2.1) ⟨fun x=>(x.1,x.2.1,x.2.2.1,x.2.2.2.1,x.2.2.2.2.1),()⟩ N
def T77 (N:Nat):FT:=(77,qD [(.int .u32)] [.str] fun x=>ze N x.1) :: (zuD N)
theorem K77 (N:Nat):AT (T77 N):=fnA zP (zuX N) (.two .auto (.two (.cal 2 101 (.two .auto (.two (.cal 2 129 (.two .auto (.two (.two .auto (.two (.two .auto (.two .auto (.two .auto (.two (.cal 3 151 (.two .auto (.two (.one (.by_ (kK N))) .auto)) .auto) .auto)))) .auto)) .auto)) .auto) .auto)) .auto) .auto)) Tryz.func77 (.cons (zcq N) .nil)
def T61 (N:Nat):FT:=(61,qD [.str] [(.int .u32),.bool] fun x=>qy N x.1) :: (T77 N)
theorem K61 (N:Nat):AT (T61 N):=fnA zP (K77 N) .auto Tryz.func61 .nil
def jC (N:Nat):LF:=zY [] ⟨(.isl .u8) :: (.fn 60 [] []) :: (.cst (.bool true)) :: dr 4 ((.int .i64) :: dr 22 []),[.gone,.gone]⟩ [(.ret,⟨dr 6 ((.int .i64) :: dr 23 []),[.gone,.gone]⟩),(.exit 0,⟨dr 30 [],[.gone,.gone]⟩)] (lsT [(.l .u8),.i] (fun x=>zn N N x.1 x.2.1) fun R o κ=>(zz o (fun a14=>κ 0 [.i a14]) (fun b15=>κ 1 [])))
def jo (N:Nat):LF:=zY [] ⟨(.isl .u8) :: (.fn 60 [] []) :: (.cst (.bool true)) :: dr 4 ((.int .i64) :: dr 22 []),[.gone,.gone]⟩ [(.ret,⟨dr 6 ((.int .i64) :: dr 23 []),[.gone,.gone]⟩),(.exit 0,⟨dr 30 [],[.gone,.gone]⟩)] (lsT [(.l .u8),.i] (fun x=>zw N N x.1 x.2.1) fun R o κ=>(zz o (fun a32=>κ 0 [.i a32]) (fun b33=>κ 1 [])))
theorem xy (N:Nat):Lp Tryz.f94 [1,1,0,2] (jC N):=jL zP (K61 N) .auto .nil [(.l .u8),.i] [[.i],[]] (fun m x=>zn N m x.1 x.2.1) ⟨fun x=>(Sum.inl x.1),fun _=>(Sum.inr ()),()⟩ N
theorem xd (N:Nat):Lp Tryz.f94 [1,1,0,2] (jo N):=jL zP (K61 N) .auto .nil [(.l .u8),.i] [[.i],[]] (fun m x=>zw N m x.1 x.2.1) ⟨fun x=>(Sum.inl x.1),fun _=>(Sum.inr ()),()⟩ N
def T35 (N:Nat):FT:=(35,zkn (.pair (.sl .u8) (.int .i64)) [] [(.int .u32),.bool] fun p x=>zr N p) :: (T61 N)
theorem K35 (N:Nat):AT (T35 N):=fnP zP (K61 N) (.two .auto (.two .auto (.two .auto (.two (.cal 2 58 (.two .auto (.two (.cal 1 59 (.two .auto (.two (.cal 2 94 (.two .auto (.two .auto (.two (.one (.by_ (jC N))) .auto))) .auto) .auto)) .auto) .auto)) .auto) (.two (.two .auto (.two (.cal 5 58 (.two .auto (.two (.cal 1 59 (.two .auto (.two (.cal 2 94 (.two .auto (.two .auto (.two (.one (.by_ (jo N))) .auto))) .auto) .auto)) .auto) .auto)) .auto) .auto)) .auto))))) Tryz.func35 (.cons (xy N) (.cons (xd N) .nil))
def T66 (N:Nat):FT:=(66,qD [(.sl .u8),.u8] [(.int .i64)] fun x=>wE N x.1 x.2.1) :: (T35 N)
theorem K66 (N:Nat):AT (T66 N):=fnA zP (K35 N) .auto Tryz.func66 .nil
def zuu (N:Nat):FT:=(147,qD [(.sl .u8)] [(.sl .u8)] fun x=>qa N x.1) :: (T66 N)
theorem zvu (N:Nat):AT (zuu N):=zvm zP (K66 N) .auto Tryz.func147 .nil
def T97 (N:Nat):FT:=(97,qD [(.sl .u8),(.int .i64)] [(.sl .u8),(.int .i64),.bool] fun x=>zm N x.1 x.2.1) :: (zuu N)
theorem K97 (N:Nat):AT (T97 N):=fnA zP (zvu N) .auto Tryz.func97 .nil
def zuK (N:Nat):FT:=(158,qD [.str,.str] [.bool] fun x=>qT N x.1 x.2.1) :: (T97 N)
theorem zvp (N:Nat):AT (zuK N):=fnA zP (K97 N) .auto Tryz.func158 .nil
def zuv (N:Nat):FT:=(141,qD [.str,.str] [.str,.bool] fun x=>qP N x.1 x.2.1) :: (zuK N)
theorem zvC (N:Nat):AT (zuv N):=fnA zP (zvp N) .auto Tryz.func141 .nil
def zux (N:Nat):FT:=(121,qD [.str,.str] [.str,.bool] fun x=>qR N x.1 x.2.1) :: (zuv N)
theorem zvt (N:Nat):AT (zux N):=fnA zP (zvC N) .auto Tryz.func121 .nil
def zup (N:Nat):FT:=(159,qD [.str,.str] [.bool] fun x=>qU N x.1 x.2.1) :: (zux N)
theorem zvx (N:Nat):AT (zup N):=fnA zP (zvt N) .auto Tryz.func159 .nil
def zuR (N:Nat):FT:=(142,qD [.str,.str] [.str,.bool] fun x=>qN N x.1 x.2.1) :: (zup N)
theorem zvB (N:Nat):AT (zuR N):=fnA zP (zvx N) .auto Tryz.func142 .nil
def zuQ (N:Nat):FT:=(122,qD [.str,.str] [.str,.bool] fun x=>qS N x.1 x.2.1) :: (zuR N)
theorem zuA (N:Nat):AT (zuQ N):=fnA zP (zvB N) .auto Tryz.func122 .nil
def zaX (N:Nat):LF:=zY [(3,.u8)] ⟨.u8 :: .drop :: .drop :: (.gs 0 1) :: .drop :: .drop :: (.int .i64) :: dr 14 [],[.seq .u8 1 0 false]⟩ [(.exit 0,⟨dr 3 ((.gs 0 1) :: dr 17 []),[.seq .u8 1 0 false]⟩)] (lsT [.c,.i,(.l .u8)] (fun x=>wI N N x.1 x.2.1 x.2.2.1) fun R o κ=>κ 0 [.l .u8 o])
theorem zeS (N:Nat):Lp Tryz.f83 [1,1,0,1,2] (zaX N):=jL zP (zuA N) .auto .nil [.c,.i,(.l .u8)] [[(.l .u8)]] (fun m x=>wI N m x.1 x.2.1 x.2.2.1) ⟨fun x=>x.1,()⟩ N
def T83 (N:Nat):FT:=(83,qD [.u8] [(.sl .u8)] fun x=>zaT N x.1) :: (zuQ N)
theorem K83 (N:Nat):AT (T83 N):=fnA zP (zuA N) (.two .auto (.two .auto (.two (.two .auto (.one (.by_ (zaX N)))) .auto))) Tryz.func83 (.cons (zeS N) .nil)
def zaW (N:Nat):LF:=zY [] ⟨.u8 :: dr 4 ((.gs 0 0) :: (.cst (.int .i64 (5:Int))) :: (.int .i64) :: dr 10 []),[.seq .str 0 0 true]⟩ [(.ret,⟨.drop :: .drop :: .str :: dr 15 [],[.seq .str 0 0 true]⟩),(.exit 0,⟨dr 18 [],[.seq .str 0 0 true]⟩)] (lsT [.c,.i,(.l .str)] (fun x=>wO N N x.1 x.2.1 x.2.2.1) fun R o κ=>(zz o (fun a9=>κ 0 [.s a9.1,.l .str a9.2]) (fun b10=>κ 1 [.l .str b10])))
theorem zeM (N:Nat):Lp Tryz.f84 [1,0,1,2] (zaW N):=jL zP (K83 N) .auto .nil [.c,.i,(.l .str)] [[.s,(.l .str)],[(.l .str)]] (fun m x=>wO N m x.1 x.2.1 x.2.2.1) ⟨fun x=>(Sum.inl (x.1,x.2.1)),fun x=>(Sum.inr x.1),()⟩ N
def T84 (N:Nat):FT:=(84,qD [.u8] [.str] fun x=>zb1 N x.1) :: (T83 N)
theorem K84 (N:Nat):AT (T84 N):=fnA zP (K83 N) (.two .auto (.two (.two .auto (.one (.by_ (zaW N)))) .auto)) Tryz.func84 (.cons (zeM N) .nil)
def zai (N:Nat):LF:=zY [] ⟨(.fn 145 [] []) :: (.ptr 1 0 1) :: dr 3 ((.gs 0 0) :: (.int .i64) :: (.int .i64) :: dr 11 []),[.seq .u8 0 0 true,.cells [(.gs 0 0)] 0]⟩ [(.exit 0,⟨dr 19 [],[.seq .u8 0 0 true,.cells [(.gs 0 0)] 0]⟩)] (lsT [.i,.i,(.l .u8)] (fun x=>qI N N x.1 x.2.1 x.2.2.1) fun R o κ=>κ 0 [.l .u8 o])
theorem zdQ (N:Nat):Lp Tryz.f144 [1,2] (zai N):=jL zP (K84 N) .auto .nil [.i,.i,(.l .u8)] [[(.l .u8)]] (fun m x=>qI N m x.1 x.2.1 x.2.2.1) ⟨fun x=>x.1,()⟩ N
def zul (N:Nat):FT:=(125,qD [.str] [.str] fun x=>wT N x.1) :: (T84 N)
theorem zt3 (N:Nat):AT (zul N):=fnA zP (K84 N) (.two .auto (.two .auto (.two .auto (.two (.cal 1 144 (.two .auto (.one (.by_ (zai N)))) .auto) .auto)))) Tryz.func125 (.cons (zdQ N) .nil)
def xE (N:Nat):LF:=zY [] ⟨.drop :: (.map 0) :: dr 3 ((.isl .u8) :: (.int .i64) :: (.int .i64) :: dr 10 []),[.kv .str .u8 0]⟩ [(.exit 0,⟨.drop :: (.map 0) :: dr 16 [],[.kv .str .u8 0]⟩)] (lsT [(.l .u8),.i,.i,(.l (.pair .str .u8))] (fun x=>qY N N x.1 x.2.1 x.2.2.1 x.2.2.2.1) fun R o κ=>κ 0 [.l (.pair .str .u8) o])
def xO (N:Nat):LF:=zY [] ⟨dr 7 (.u8 :: (.map 0) :: dr 24 ((.gs 1 0) :: (.int .i64) :: (.int .i64) :: dr 17 [])),[.kv .str .u8 0,.seq .str 0 0 true]⟩ [(.ret,⟨.drop :: .drop :: .u8 :: (.cst (.bool false)) :: dr 49 [],[.kv .str .u8 0,.seq .str 0 0 true]⟩),(.exit 0,⟨dr 7 (.u8 :: dr 45 []),[.kv .str .u8 0,.seq .str 0 0 true]⟩)] (lsT [.c,.i,.i,(.l (.pair .str .u8)),(.l .str)] (fun x=>qb N N x.1 x.2.1 x.2.2.1 x.2.2.2.1 x.2.2.2.2.1) fun R o κ=>(zz o (fun a50=>κ 0 [.c a50.1,.l (.pair .str .u8) a50.2.1,.l .str a50.2.2]) (fun b51=>κ 1 [.c b51.1,.l (.pair .str .u8) b51.2.1,.l .str b51.2.2])))
theorem zcT (N:Nat):Lp Tryz.f123 [1,1,0,1,2] (xE N):=jL zP (zt3 N) .auto .nil [(.l .u8),.i,.i,(.l (.pair .str .u8))] [[(.l (.pair .str .u8))]] (fun m x=>qY N m x.1 x.2.1 x.2.2.1 x.2.2.2.1) ⟨fun x=>x.1,()⟩ N
theorem zcJ (N:Nat):Lp Tryz.f96 [1,1,1,1,1,1,1,0,1,2] (xO N):=jL zP (zt3 N) .auto .nil [.c,.i,.i,(.l (.pair .str .u8)),(.l .str)] [[.c,(.l (.pair .str .u8)),(.l .str)],[.c,(.l (.pair .str .u8)),(.l .str)]] (fun m x=>qb N m x.1 x.2.1 x.2.2.1 x.2.2.2.1 x.2.2.2.2.1) ⟨fun x=>(Sum.inl (x.1,x.2.1,x.2.2.1)),fun x=>(Sum.inr (x.1,x.2.1,x.2.2.1)),()⟩ N
def T96 (N:Nat):FT:=(96,qD [.str] [.u8,.bool] fun x=>jn N x.1) :: (zul N)
theorem K96 (N:Nat):AT (T96 N):=fnA zP (zt3 N) (.two .auto (.two .auto (.two .auto (.two .auto (.two .auto (.two .auto (.two (.cal 0 123 (.two .auto (.two .auto (.two (.two .auto (.one (.by_ (xE N)))) .auto))) .auto) (.two (.two .auto (.one (.by_ (xO N)))) .auto)))))))) Tryz.func96 (.cons (zcT N) (.cons (zcJ N) .nil))
def T36 (N:Nat):FT:=(36,zkn (.pair (.sl .u8) (.int .i64)) [(.int .u32)] [uR1] fun p x=>zV N p x.1) :: (T96 N)
theorem K36 (N:Nat):AT (T36 N):=fnP zP (K96 N) (.two .auto (.two .auto (.two .auto (.two (.two .auto (.one (.one (.two .auto (.two .auto (.two (.one (.two .auto (.two (.two (.by_ (zma Tryz.prog glA (zf4 (T96 N)) Tryz.f36 [1,1,1,0,1,2,2,1,1,0,2,1,0,0] [(some 30,0),(some 31,1),(some 32,3),(some 33,7),(some 34,15),(some 35,31),(some 36,15),(some 37,79),(some 38,207),(some 39,463),(some 40,1023),(some 41,2047),(some 42,4095)])) .auto) .auto))) .auto)))))) .auto)))) Tryz.func36 (.cons (zvQ zP (K96 N) Tryz.f36 [1,1,1,0,1,2,2,1,1,0,2,1,0,0] [(some 30,0),(some 31,1),(some 32,3),(some 33,7),(some 34,15),(some 35,31),(some 36,15),(some 37,79),(some 38,207),(some 39,463),(some 40,1023),(some 41,2047),(some 42,4095)]) .nil)
def jd (N:Nat):LF:=zY [] ⟨(.ptr 0 0 2) :: .drop :: (.ptr 1 0 10) :: dr 11 ((.gs 2 0) :: (.cst (.int .i64 (3:Int))) :: (.int .i64) :: dr 57 []),[.cells [(.isl .u8),(.int .i64)] 0,.cells [(.cst (.int .i64 (0:Int))),(.cst (.int .u32 (0:Int))),(.cst (.str ([]:List UInt8))),(.cst (.int .i64 (0:Int))),(.cst (.str ([]:List UInt8))),(.cst (.int .i64 (0:Int))),.u8,(.cst (.int .u32 (0:Int))),(.cst (.int .u32 (0:Int))),(.cst .qF)] 0,.seq (.pair .str (.int .i64)) 0 0 true]⟩ [(.ret,⟨.drop :: .drop :: (.ptr 1 0 10) :: dr 71 [],[.cells [(.isl .u8),(.int .i64)] 0,.cells [(.int .i64),(.cst (.int .u32 (0:Int))),(.cst (.str ([]:List UInt8))),(.cst (.int .i64 (0:Int))),.str,(.cst (.int .i64 (0:Int))),.u8,(.cst (.int .u32 (0:Int))),(.cst (.int .u32 (0:Int))),(.cst .qF)] 0,.seq (.pair .str (.int .i64)) 0 0 true]⟩),(.exit 0,⟨(.ptr 0 0 2) :: .drop :: (.ptr 1 0 10) :: dr 71 [],[.cells [(.isl .u8),(.int .i64)] 0,.cells [(.cst (.int .i64 (0:Int))),(.cst (.int .u32 (0:Int))),(.cst (.str ([]:List UInt8))),(.cst (.int .i64 (0:Int))),(.cst (.str ([]:List UInt8))),(.cst (.int .i64 (0:Int))),.u8,(.cst (.int .u32 (0:Int))),(.cst (.int .u32 (0:Int))),(.cst .qF)] 0,.seq (.pair .str (.int .i64)) 0 0 true]⟩)] (lsT [.i,(.l .u8),.i,.c,(.l (.pair .str (.int .i64)))] (fun x=>zl N N x.1 x.2.1 x.2.2.1 x.2.2.2.1 x.2.2.2.2.1) fun R o κ=>(zz o (fun a23=>κ 0 [.l .u8 a23.1,.i a23.2.1,.i a23.2.2.1,.s a23.2.2.2.1,.c a23.2.2.2.2.1,.l (.pair .str (.int .i64)) a23.2.2.2.2.2]) (fun b24=>κ 1 [.l .u8 b24.1,.i b24.2.1,.c b24.2.2.1,.l (.pair .str (.int .i64)) b24.2.2.2])))
def qZ (N:Nat):LF:=zY [] ⟨(.ptr 0 0 2) :: .drop :: (.ptr 1 0 10) :: dr 4 ((.int .u32) :: dr 42 ((.gs 3 0) :: (.cst (.int .i64 (4:Int))) :: (.int .i64) :: dr 21 [])),[.cells [(.isl .u8),(.int .i64)] 0,.cells [(.cst (.int .i64 (0:Int))),(.cst (.int .u32 (0:Int))),(.cst (.str ([]:List UInt8))),(.cst (.int .i64 (0:Int))),(.cst (.str ([]:List UInt8))),(.cst (.int .i64 (0:Int))),.u8,(.cst (.int .u32 (0:Int))),(.cst (.int .u32 (0:Int))),(.cst .qF)] 0,.gone,.seq .str 0 0 true]⟩ [(.ret,⟨.drop :: .drop :: (.ptr 1 0 10) :: dr 71 [],[.cells [(.isl .u8),(.int .i64)] 0,.cells [(.int .i64),(.int .u32),(.cst (.str ([]:List UInt8))),(.cst (.int .i64 (0:Int))),(.cst (.str ([]:List UInt8))),(.cst (.int .i64 (0:Int))),.u8,(.cst (.int .u32 (0:Int))),(.cst (.int .u32 (0:Int))),(.cst .qF)] 0,.gone,.seq .str 0 0 true]⟩),(.exit 2,⟨(.ptr 0 0 2) :: .drop :: (.ptr 1 0 10) :: dr 4 ((.int .u32) :: dr 66 []),[.cells [(.isl .u8),(.int .i64)] 0,.cells [(.cst (.int .i64 (0:Int))),(.cst (.int .u32 (0:Int))),(.cst (.str ([]:List UInt8))),(.cst (.int .i64 (0:Int))),(.cst (.str ([]:List UInt8))),(.cst (.int .i64 (0:Int))),.u8,(.cst (.int .u32 (0:Int))),(.cst (.int .u32 (0:Int))),(.cst .qF)] 0,.gone,.seq .str 0 0 true]⟩)] (lsT [.i,.i,(.l .u8),.i,.c,(.l .str)] (fun x=>zi N N x.1 x.2.1 x.2.2.1 x.2.2.2.1 x.2.2.2.2.1 x.2.2.2.2.2.1) fun R o κ=>(zz o (fun a51=>κ 0 [.l .u8 a51.1,.i a51.2.1,.i a51.2.2.1,.i a51.2.2.2.1,.c a51.2.2.2.2.1,.l .str a51.2.2.2.2.2]) (fun b52=>κ 1 [.i b52.1,.l .u8 b52.2.1,.i b52.2.2.1,.c b52.2.2.2.1,.l .str b52.2.2.2.2])))
theorem ki (N:Nat):Lp Tryz.f21 [1,0,1,2] (jd N):=jL zP (K36 N) .auto .nil [.i,(.l .u8),.i,.c,(.l (.pair .str (.int .i64)))] [[(.l .u8),.i,.i,.s,.c,(.l (.pair .str (.int .i64)))],[(.l .u8),.i,.c,(.l (.pair .str (.int .i64)))]] (fun m x=>zl N m x.1 x.2.1 x.2.2.1 x.2.2.2.1 x.2.2.2.2.1) ⟨fun x=>(Sum.inl (x.1,x.2.1,x.2.2.1,x.2.2.2.1,x.2.2.2.2.1,x.2.2.2.2.2.1)),fun x=>(Sum.inr (x.1,x.2.1,x.2.2.1,x.2.2.2.1)),()⟩ N
theorem kj (N:Nat):Lp Tryz.f21 [1,1,1,1,1,0,1,2] (qZ N):=jL zP (K36 N) .auto .nil [.i,.i,(.l .u8),.i,.c,(.l .str)] [[(.l .u8),.i,.i,.i,.c,(.l .str)],[.i,(.l .u8),.i,.c,(.l .str)]] (fun m x=>zi N m x.1 x.2.1 x.2.2.1 x.2.2.2.1 x.2.2.2.2.1 x.2.2.2.2.2.1) ⟨fun x=>(Sum.inl (x.1,x.2.1,x.2.2.1,x.2.2.2.1,x.2.2.2.2.1,x.2.2.2.2.2.1)),fun x=>(Sum.inr (x.1,x.2.1,x.2.2.1,x.2.2.2.1,x.2.2.2.2.1)),()⟩ N
def T21 (N:Nat):FT:=(21,zkn (.pair (.sl .u8) (.int .i64)) [] [uR1] fun p x=>zS N p) :: (T36 N)
theorem K21 (N:Nat):AT (T21 N):=fnP zP (K36 N) (.two .auto (.two (.two .auto (.one (.by_ (jd N)))) (.two .auto (.two .auto (.two .auto (.two (.two .auto (.one (.by_ (qZ N)))) .auto)))))) Tryz.func21 (.cons (ki N) (.cons (kj N) .nil))
def T78 (N:Nat):FT:=(78,qD [uR1] [uR1,.bool] fun x=>qH N x.1) :: (T21 N)
theorem K78 (N:Nat):AT (T78 N):=fnA zP (K21 N) .auto Tryz.func78 .nil
def jc (N:Nat):LF:=zY [] ⟨(.isl .u8) :: (.isl .u8) :: dr 10 ((.int .i64) :: (.int .i64) :: dr 12 []),[]⟩ [(.ret,⟨dr 4 ((.cst (.bool false)) :: dr 21 []),[]⟩),(.exit 0,⟨dr 26 [],[]⟩)] (lsT [(.l .u8),(.l .u8),.i,.i] (fun x=>zD N N x.1 x.2.1 x.2.2.1 x.2.2.2.1) fun R o κ=>(zz o (fun a11=>κ 0 []) (fun b12=>κ 1 [])))
theorem kh (N:Nat):Lp Tryz.f15 [1,1,0,1,2] (jc N):=jL zP (K78 N) .auto .nil [(.l .u8),(.l .u8),.i,.i] [[],[]] (fun m x=>zD N m x.1 x.2.1 x.2.2.1 x.2.2.2.1) ⟨fun _=>(Sum.inl ()),fun _=>(Sum.inr ()),()⟩ N
def T15 (N:Nat):FT:=(15,qD [(.sl .u8),(.sl .u8)] [.bool] fun x=>zO N x.1 x.2.1) :: (T78 N)
theorem K15 (N:Nat):AT (T15 N):=fnA zP (K78 N) (.two .auto (.two .auto (.two (.two .auto (.one (.by_ (jc N)))) .auto))) Tryz.func15 (.cons (kh N) .nil)
def T46 (N:Nat):FT:=(46,qD [uR1,uR1] [.bool] fun x=>zH N x.1 x.2.1) :: (T15 N)
theorem K46 (N:Nat):AT (T46 N):=fnA zP (K15 N) .auto Tryz.func46 .nil
def zuy (N:Nat):FT:=(103,zkn uR1 [uR1] [] fun p x=>zbV N p x.1) :: (T46 N)
theorem zvG (N:Nat):AT (zuy N):=fnP zP (K46 N) .auto Tryz.func103 .nil
def zuF (N:Nat):FT:=(105,zkn uR1 [uR1] [] fun p x=>xX N p x.1) :: (zuy N)
theorem zu5 (N:Nat):AT (zuF N):=fnP zP (zvG N) .auto Tryz.func105 .nil
def zuS (N:Nat):FT:=(107,zkn uR1 [uR1] [] fun p x=>jM N p x.1) :: (zuF N)
theorem zu6 (N:Nat):AT (zuS N):=fnP zP (zu5 N) .auto Tryz.func107 .nil
def zuB (N:Nat):FT:=(110,zkn uR1 [uR1] [] fun p x=>zZ N p x.1) :: (zuS N)
theorem zvM (N:Nat):AT (zuB N):=fnP zP (zu6 N) .auto Tryz.func110 .nil
def T82 (N:Nat):FT:=(82,qD [uR1] [uR1,.bool] fun x=>qW N x.1) :: (zuB N)
theorem K82 (N:Nat):AT (T82 N):=fnA zP (zvM N) .auto Tryz.func82 .nil
def T51 (N:Nat):FT:=(51,qD [uR1] [uR1,.bool] fun x=>wM N x.1) :: (T82 N)
theorem K51 (N:Nat):AT (T51 N):=fnA zP (K82 N) .auto Tryz.func51 .nil
def T88 (N:Nat):FT:=(88,qD [.u8] [.bool] fun x=>xq N x.1) :: (T51 N)
theorem K88 (N:Nat):AT (T88 N):=fnA zP (K51 N) .auto Tryz.func88 .nil
def kU (N:Nat):LF:=zY [] ⟨.drop :: .str :: (.ptr 2 0 1) :: dr 4 ((.int .i64) :: (.int .i64) :: dr 10 []),[.gone,.gone,.cells [(.fn 88 [] [])] 0]⟩ [(.ret,⟨dr 4 ((.cst (.bool false)) :: dr 14 []),[.gone,.gone,.cells [(.fn 88 [] [])] 0]⟩),(.exit 0,⟨dr 19 [],[.gone,.gone,.cells [(.fn 88 [] [])] 0]⟩)] (lsT [.s,.i,.i] (fun x=>qk N N x.1 x.2.1 x.2.2.1) fun R o κ=>(zz o (fun a15=>κ 0 []) (fun b16=>κ 1 [])))
theorem zb7 (N:Nat):Lp Tryz.f114 [1,0,1,2] (kU N):=jL zP (K88 N) .auto .nil [.s,.i,.i] [[],[]] (fun m x=>qk N m x.1 x.2.1 x.2.2.1) ⟨fun _=>(Sum.inl ()),fun _=>(Sum.inr ()),()⟩ N
def T86 (N:Nat):FT:=(86,qD [uR1] [uR1,.bool] fun x=>qw N x.1) :: (T88 N)
theorem K86 (N:Nat):AT (T86 N):=fnA zP (K88 N) (.two .auto (.two (.cal 5 87 (.two .auto (.two (.cal 6 114 (.two .auto (.two (.two .auto (.one (.by_ (kU N)))) .auto)) .auto) .auto)) .auto) .auto)) Tryz.func86 (.cons (zb7 N) .nil)
def zuP (N:Nat):FT:=(115,qD [.u8] [.bool] fun x=>zdl N x.1) :: (T86 N)
theorem zvb (N:Nat):AT (zuP N):=fnA zP (K86 N) .auto Tryz.func115 .nil
def T91 (N:Nat):FT:=(91,qD [.u8] [.bool] fun x=>zbE N x.1) :: (zuP N)
theorem K91 (N:Nat):AT (T91 N):=fnA zP (zvb N) .auto Tryz.func91 .nil
def wY (N:Nat):LF:=zY [] ⟨.drop :: .str :: (.ptr 2 0 1) :: dr 4 ((.int .i64) :: (.int .i64) :: dr 10 []),[.gone,.gone,.cells [(.fn 91 [] [])] 0]⟩ [(.ret,⟨dr 4 ((.cst (.bool false)) :: dr 14 []),[.gone,.gone,.cells [(.fn 91 [] [])] 0]⟩),(.exit 0,⟨dr 19 [],[.gone,.gone,.cells [(.fn 91 [] [])] 0]⟩)] (lsT [.s,.i,.i] (fun x=>zW N N x.1 x.2.1 x.2.2.1) fun R o κ=>(zz o (fun a15=>κ 0 []) (fun b16=>κ 1 [])))
def kd (N:Nat):LF:=zY [] ⟨.drop :: .str :: (.ptr 3 0 1) :: dr 4 ((.int .i64) :: (.int .i64) :: dr 10 []),[.gone,.gone,.gone,.cells [(.fn 88 [] [])] 0]⟩ [(.ret,⟨dr 4 ((.cst (.bool false)) :: dr 14 []),[.gone,.gone,.gone,.cells [(.fn 88 [] [])] 0]⟩),(.exit 0,⟨dr 19 [],[.gone,.gone,.gone,.cells [(.fn 88 [] [])] 0]⟩)] (lsT [.s,.i,.i] (fun x=>zX N N x.1 x.2.1 x.2.2.1) fun R o κ=>(zz o (fun a34=>κ 0 []) (fun b35=>κ 1 [])))
theorem zbp (N:Nat):Lp Tryz.f114 [1,0,1,2] (wY N):=jL zP (K91 N) .auto .nil [.s,.i,.i] [[],[]] (fun m x=>zW N m x.1 x.2.1 x.2.2.1) ⟨fun _=>(Sum.inl ()),fun _=>(Sum.inr ()),()⟩ N
theorem za7 (N:Nat):Lp Tryz.f114 [1,0,1,2] (kd N):=jL zP (K91 N) .auto .nil [.s,.i,.i] [[],[]] (fun m x=>zX N m x.1 x.2.1 x.2.2.1) ⟨fun _=>(Sum.inl ()),fun _=>(Sum.inr ()),()⟩ N
def T90 (N:Nat):FT:=(90,qD [uR1] [uR1,.bool] fun x=>jq N x.1) :: (T91 N)
theorem K90 (N:Nat):AT (T90 N):=fnA zP (K91 N) (.two .auto (.two (.cal 2 87 (.two .auto (.two (.cal 6 114 (.two .auto (.two (.two .auto (.one (.by_ (wY N)))) .auto)) .auto) .auto)) (.cal 6 87 (.two .auto (.two (.cal 6 114 (.two .auto (.two (.two .auto (.one (.by_ (kd N)))) .auto)) .auto) .auto)) .auto)) .auto)) Tryz.func90 (.cons (zbp N) (.cons (za7 N) .nil))
def T28 (N:Nat):FT:=(28,qD [uR1] [.bool] fun x=>xC N x.1) :: (T90 N)
theorem K28 (N:Nat):AT (T28 N):=fnA zP (K90 N) .auto Tryz.func28 .nil
def zaw (N:Nat):LF:=zY [(3,.str)] ⟨dr 3 ((.gs 0 1) :: dr 3 ((.isl .u8) :: (.int .i64) :: (.int .i64) :: dr 13 [])),[.seq .str 1 0 false]⟩ [(.exit 0,⟨dr 3 ((.gs 0 1) :: dr 19 []),[.seq .str 1 0 false]⟩)] (lsT [(.l .u8),.i,.i,(.l .str)] (fun x=>wc N N x.1 x.2.1 x.2.2.1 x.2.2.2.1) fun R o κ=>κ 0 [.l .str o])
theorem zdH (N:Nat):Lp Tryz.f50 [1,1,0,1,2] (zaw N):=jL zP (K28 N) .auto .nil [(.l .u8),.i,.i,(.l .str)] [[(.l .str)]] (fun m x=>wc N m x.1 x.2.1 x.2.2.1 x.2.2.2.1) ⟨fun x=>x.1,()⟩ N
def T50 (N:Nat):FT:=(50,qD [.u8] [.str] fun x=>kY N x.1) :: (T28 N)
theorem K50 (N:Nat):AT (T50 N):=fnA zP (K28 N) (.two .auto (.two .auto (.two (.two .auto (.one (.by_ (zaw N)))) .auto))) Tryz.func50 (.cons (zdH N) .nil)
def zu2 (N:Nat):FT:=(102,qD [uR1] [.str] fun x=>wH N x.1) :: (T50 N)
theorem zvP (N:Nat):AT (zu2 N):=fnA zP (K50 N) .auto Tryz.func102 .nil
def zur (N:Nat):FT:=(104,qD [uR1] [.str] fun x=>jK N x.1) :: (zu2 N)
theorem zvJ (N:Nat):AT (zur N):=fnA zP (zvP N) .auto Tryz.func104 .nil
def zuH (N:Nat):FT:=(106,qD [uR1] [.str] fun x=>qE N x.1) :: (zur N)
theorem zvf (N:Nat):AT (zuH N):=fnA zP (zvJ N) .auto Tryz.func106 .nil
def zuC (N:Nat):FT:=(109,qD [(.sl .u8)] [(.sl .u8)] fun x=>wq N x.1) :: (zuH N)
theorem zvy (N:Nat):AT (zuC N):=fnA zP (zvf N) .auto Tryz.func109 .nil
def zuI (N:Nat):FT:=(108,qD [uR1] [.str] fun x=>zK N x.1) :: (zuC N)
theorem zu4 (N:Nat):AT (zuI N):=fnA zP (zvy N) .auto Tryz.func108 .nil
def T79 (N:Nat):FT:=(79,qD [uR1] [.str] fun x=>jP N x.1) :: (zuI N)
theorem K79 (N:Nat):AT (T79 N):=fnA zP (zu4 N) .auto Tryz.func79 .nil
def T49 (N:Nat):FT:=(49,qD [uR1] [.str] fun x=>zac N x.1) :: (T79 N)
theorem K49 (N:Nat):AT (T49 N):=fnA zP (K79 N) .auto Tryz.func49 .nil
def T89 (N:Nat):FT:=(89,qD [uR1] [.str] fun x=>kN N x.1) :: (T49 N)
theorem K89 (N:Nat):AT (T89 N):=fnA zP (K49 N) .auto Tryz.func89 .nil
def T14 (N:Nat):FT:=(14,qD [uR1] [(.sl .u8),.bool] fun x=>qh N x.1) :: (T89 N)
theorem K14 (N:Nat):AT (T14 N):=fnA zP (K89 N) .auto Tryz.func14 .nil
def qx (N:Nat):LF:=zY [] ⟨(.isl .str) :: .str :: dr 5 ((.int .i64) :: (.int .i64) :: dr 10 []),[]⟩ [(.ret,⟨dr 4 ((.int .i64) :: dr 14 []),[]⟩),(.exit 0,⟨dr 19 [],[]⟩)] (lsT [(.l .str),.s,.i,.i] (fun x=>zE N N x.1 x.2.1 x.2.2.1 x.2.2.2.1) fun R o κ=>(zz o (fun a11=>κ 0 [.i a11]) (fun b12=>κ 1 [])))
theorem wu (N:Nat):Lp Tryz.f32 [1,0,1,2] (qx N):=jL zP (K14 N) .auto .nil [(.l .str),.s,.i,.i] [[.i],[]] (fun m x=>zE N m x.1 x.2.1 x.2.2.1 x.2.2.2.1) ⟨fun x=>(Sum.inl x.1),fun _=>(Sum.inr ()),()⟩ N
def T32 (N:Nat):FT:=(32,qD [(.sl .str),.str] [(.int .i64)] fun x=>zI N x.1 x.2.1) :: (T14 N)
theorem K32 (N:Nat):AT (T32 N):=fnA zP (K14 N) (.two .auto (.two (.two .auto (.one (.by_ (qx N)))) .auto)) Tryz.func32 (.cons (wu N) .nil)
def T19 (N:Nat):FT:=(19,zkn (.pair (.sl .u8) (.int .i64)) [] [uR1] fun p x=>z8 N p) :: (T32 N)
theorem K19 (N:Nat):AT (T19 N):=fnP zP (K32 N) .auto Tryz.func19 .nil
def T8 (N:Nat):FT:=(8,qD [(.sl .u8),(.int .i64)] [uR1,(.int .i64),.bool] fun x=>qM N x.1 x.2.1) :: (T19 N)
theorem K8 (N:Nat):AT (T8 N):=fnA zP (K19 N) .auto Tryz.func8 .nil
def zaz (N:Nat):LF:=zY [] ⟨(.isl .u8) :: (.int .i64) :: dr 4 ((.int .i64) :: dr 31 []),[]⟩ [(.exit 0,⟨(.isl .u8) :: (.int .i64) :: dr 4 ((.int .i64) :: dr 31 []),[]⟩)] (lsT [(.l .u8),.i,.i] (fun x=>j9 N N x.1 x.2.1 x.2.2.1) fun R o κ=>κ 0 [.l .u8 o.1,.i o.2.1,.i o.2.2])
theorem zdN (N:Nat):Lp Tryz.f39 [1,1,0,2] (zaz N):=jL zP (K8 N) .auto .nil [(.l .u8),.i,.i] [[(.l .u8),.i,.i]] (fun m x=>j9 N m x.1 x.2.1 x.2.2.1) ⟨fun x=>(x.1,x.2.1,x.2.2.1),()⟩ N
def T39 (N:Nat):FT:=(39,qD [(.sl .u8),(.int .i64)] [.str,(.int .i64)] fun x=>zbc N x.1 x.2.1) :: (T8 N)
theorem K39 (N:Nat):AT (T39 N):=fnA zP (K8 N) (.two .auto (.two .auto (.two (.one (.by_ (zaz N))) .auto))) Tryz.func39 (.cons (zdN N) .nil)
def zak (N:Nat):LF:=zY [] ⟨(.isl .u8) :: (.int .i64) :: dr 4 ((.int .i64) :: dr 28 []),[]⟩ [(.ret,⟨dr 4 (.str :: (.int .i64) :: dr 29 []),[]⟩),(.exit 0,⟨dr 35 [],[]⟩)] (lsT [(.l .u8),.i,.i] (fun x=>wx N N x.1 x.2.1 x.2.2.1) fun R o κ=>(zz o (fun a7=>κ 0 [.s a7.1,.i a7.2]) (fun b8=>κ 1 [])))
theorem zdA (N:Nat):Lp Tryz.f40 [1,0,1,2] (zak N):=jL zP (K39 N) .auto .nil [(.l .u8),.i,.i] [[.s,.i],[]] (fun m x=>wx N m x.1 x.2.1 x.2.2.1) ⟨fun x=>(Sum.inl (x.1,x.2.1)),fun _=>(Sum.inr ()),()⟩ N
def T40 (N:Nat):FT:=(40,qD [(.sl .u8),(.int .i64)] [.str,(.int .i64)] fun x=>zbs N x.1 x.2.1) :: (T39 N)
theorem K40 (N:Nat):AT (T40 N):=fnA zP (K39 N) (.two .auto (.two (.two .auto (.one (.by_ (zak N)))) .auto)) Tryz.func40 (.cons (zdA N) .nil)
def kp (N:Nat):LF:=zY [] ⟨(.int .u32) :: .drop :: .drop :: .str :: dr 18 [],[]⟩ [(.exit 0,⟨(.int .u32) :: .drop :: .drop :: .str :: dr 18 [],[]⟩)] (lsT [.i,.s] (fun x=>ji N N x.1 x.2.1) fun R o κ=>κ 0 [.i o.1,.s o.2])
theorem zbO (N:Nat):Lp Tryz.f70 [1,1,0,2] (kp N):=jL zP (K40 N) .auto .nil [.i,.s] [[.i,.s]] (fun m x=>ji N m x.1 x.2.1) ⟨fun x=>(x.1,x.2.1),()⟩ N
def T70 (N:Nat):FT:=(70,qD [(.int .u32)] [.str] fun x=>j8 N x.1) :: (T40 N)
theorem K70 (N:Nat):AT (T70 N):=fnA zP (K40 N) (.two .auto (.two .auto (.two (.one (.by_ (kp N))) .auto))) Tryz.func70 (.cons (zbO N) .nil)
def xw (N:Nat):LF:=zY [] ⟨.str :: dr 3 ((.int .u64) :: (.int .i64) :: dr 38 []),[]⟩ [(.ret,⟨.drop :: .drop :: (.cst (.int .u32 (0:Int))) :: (.cst (.bool false)) :: dr 40 [],[]⟩),(.exit 0,⟨.str :: dr 3 ((.int .u64) :: dr 39 []),[]⟩)] (lsT [.s,.i,.i] (fun x=>jw N N x.1 x.2.1 x.2.2.1) fun R o κ=>(zz o (fun a8=>κ 0 []) (fun b9=>κ 1 [.s b9.1,.i b9.2])))
theorem zce (N:Nat):Lp Tryz.f41 [1,1,1,0,1,2] (xw N):=jL zP (K70 N) .auto .nil [.s,.i,.i] [[],[.s,.i]] (fun m x=>jw N m x.1 x.2.1 x.2.2.1) ⟨fun _=>(Sum.inl ()),fun x=>(Sum.inr (x.1,x.2.1)),()⟩ N
def T41 (N:Nat):FT:=(41,qD [.str] [(.int .u32),.bool] fun x=>wK N x.1) :: (T70 N)
theorem K41 (N:Nat):AT (T41 N):=fnA zP (K70 N) (.two .auto (.two .auto (.two .auto (.two (.two .auto (.one (.by_ (xw N)))) .auto)))) Tryz.func41 (.cons (zce N) .nil)
def T26 (N:Nat):FT:=(26,qD [(.sl .u8),(.int .i64),.str] [.bool] fun x=>zA N x.1 x.2.1 x.2.2.1) :: (T41 N)
theorem K26 (N:Nat):AT (T26 N):=fnA zP (K41 N) .auto Tryz.func26 .nil
def T75 (N:Nat):FT:=(75,qD [(.int .i64)] [.str] fun x=>xR N x.1) :: (T26 N)
theorem K75 (N:Nat):AT (T75 N):=fnA zP (K26 N) .auto Tryz.func75 .nil
def xU (N:Nat):LF:=zY [] ⟨.str :: .drop :: .drop :: .str :: (.int .i64) :: dr 24 [],[]⟩ [(.exit 0,⟨dr 3 (.str :: dr 25 []),[]⟩)] (lsT [.s,.s,.i] (fun x=>jR N N x.1 x.2.1 x.2.2.1) fun R o κ=>κ 0 [.s o])
theorem zdv (N:Nat):Lp Tryz.f148 [1,1,0,1,2] (xU N):=jL zP (K75 N) .auto .nil [.s,.s,.i] [[.s]] (fun m x=>jR N m x.1 x.2.1 x.2.2.1) ⟨fun x=>x.1,()⟩ N
def zuw (N:Nat):FT:=(148,qD [.str] [.str] fun x=>zaH N x.1) :: (T75 N)
theorem zuL (N:Nat):AT (zuw N):=fnA zP (K75 N) (.two .auto (.two .auto (.two (.two .auto (.one (.by_ (xU N)))) .auto))) Tryz.func148 (.cons (zdv N) .nil)
def xI (N:Nat):LF:=zY [] ⟨.str :: .drop :: .drop :: (.int .i64) :: dr 11 [],[]⟩ [(.ret,⟨.drop :: .drop :: (.int .i64) :: dr 12 [],[]⟩),(.exit 0,⟨dr 15 [],[]⟩)] (lsT [.s,.i] (fun x=>jO N N x.1 x.2.1) fun R o κ=>(zz o (fun a19=>κ 0 [.i a19]) (fun b20=>κ 1 [])))
theorem zdb (N:Nat):Lp Tryz.f128 [1,0,1,2] (xI N):=jL zP (zuL N) .auto .nil [.s,.i] [[.i],[]] (fun m x=>jO N m x.1 x.2.1) ⟨fun x=>(Sum.inl x.1),fun _=>(Sum.inr ()),()⟩ N
def zuZ (N:Nat):FT:=(128,qD [.str] [(.int .i64)] fun x=>za8 N x.1) :: (zuw N)
theorem zut (N:Nat):AT (zuZ N):=fnA zP (zuL N) (.two .auto (.two (.two .auto (.one (.by_ (xI N)))) .auto)) Tryz.func128 (.cons (zdb N) .nil)
def kR (N:Nat):LF:=zY [] ⟨.str :: .drop :: .drop :: (.int .i64) :: (.int .i64) :: (.int .i64) :: (.int .i64) :: dr 47 [],[]⟩ [(.ret,⟨.drop :: .drop :: (.cst (.int .i64 (-1:Int))) :: dr 51 [],[]⟩),(.exit 0,⟨dr 4 ((.int .i64) :: dr 49 []),[]⟩)] (lsT [.s,.i,.i,.i,.i] (fun x=>jz N N x.1 x.2.1 x.2.2.1 x.2.2.2.1 x.2.2.2.2.1) fun R o κ=>(zz o (fun a22=>κ 0 []) (fun b23=>κ 1 [.i b23])))
theorem zco (N:Nat):Lp Tryz.f100 [1,1,1,1,1,1,0,1,2] (kR N):=jL zP (zut N) .auto .nil [.s,.i,.i,.i,.i] [[],[.i]] (fun m x=>jz N m x.1 x.2.1 x.2.2.1 x.2.2.2.1 x.2.2.2.2.1) ⟨fun _=>(Sum.inl ()),fun x=>(Sum.inr x.1),()⟩ N
def zuq (N:Nat):FT:=(100,qD [.str] [(.int .i64)] fun x=>kz N x.1) :: (zuZ N)
theorem zuT (N:Nat):AT (zuq N):=fnA zP (zut N) (.two .auto (.two .auto (.two .auto (.two .auto (.two .auto (.two .auto (.two (.two .auto (.one (.by_ (kR N)))) .auto))))))) Tryz.func100 (.cons (zco N) .nil)
def xW (N:Nat):LF:=zY [] ⟨(.isl .u8) :: (.int .i64) :: dr 4 ((.int .i64) :: dr 31 []),[]⟩ [(.exit 0,⟨(.isl .u8) :: (.int .i64) :: dr 4 ((.int .i64) :: dr 31 []),[]⟩)] (lsT [(.l .u8),.i,.i] (fun x=>jQ N N x.1 x.2.1 x.2.2.1) fun R o κ=>κ 0 [.l .u8 o.1,.i o.2.1,.i o.2.2])
theorem zdh (N:Nat):Lp Tryz.f71 [1,1,0,2] (xW N):=jL zP (zuT N) .auto .nil [(.l .u8),.i,.i] [[(.l .u8),.i,.i]] (fun m x=>jQ N m x.1 x.2.1 x.2.2.1) ⟨fun x=>(x.1,x.2.1,x.2.2.1),()⟩ N
def T71 (N:Nat):FT:=(71,qD [(.sl .u8),(.int .i64)] [(.int .i64),(.int .i64)] fun x=>zcD N x.1 x.2.1) :: (zuq N)
theorem K71 (N:Nat):AT (T71 N):=fnA zP (zuT N) (.two .auto (.two .auto (.two (.one (.by_ (xW N))) .auto))) Tryz.func71 (.cons (zdh N) .nil)
def kX (N:Nat):LF:=zY [] ⟨(.isl .u8) :: (.int .i64) :: dr 4 ((.int .i64) :: dr 42 []),[]⟩ [(.exit 0,⟨(.isl .u8) :: (.int .i64) :: dr 4 ((.int .i64) :: dr 42 []),[]⟩)] (lsT [(.l .u8),.i,.i] (fun x=>ju N N x.1 x.2.1 x.2.2.1) fun R o κ=>κ 0 [.l .u8 o.1,.i o.2.1,.i o.2.2])
theorem zcf (N:Nat):Lp Tryz.f72 [1,1,0,2] (kX N):=jL zP (K71 N) .auto .nil [(.l .u8),.i,.i] [[(.l .u8),.i,.i]] (fun m x=>ju N m x.1 x.2.1 x.2.2.1) ⟨fun x=>(x.1,x.2.1,x.2.2.1),()⟩ N
def T72 (N:Nat):FT:=(72,qD [(.sl .u8),(.int .i64)] [(.int .u32),(.int .i64)] fun x=>zaa N x.1 x.2.1) :: (T71 N)
theorem K72 (N:Nat):AT (T72 N):=fnA zP (K71 N) (.two .auto (.two .auto (.two (.one (.by_ (kX N))) .auto))) Tryz.func72 (.cons (zcf N) .nil)
def jX (N:Nat):LF:=zY [] ⟨(.isl .u8) :: (.int .i64) :: dr 5 ((.int .i64) :: dr 112 []),[]⟩ [(.exit 0,⟨(.isl .u8) :: (.int .i64) :: dr 5 ((.int .i64) :: dr 112 []),[]⟩)] (lsT [(.l .u8),.i,.i] (fun x=>qp N N x.1 x.2.1 x.2.2.1) fun R o κ=>κ 0 [.l .u8 o.1,.i o.2.1,.i o.2.2])
theorem zaA (N:Nat):Lp Tryz.f73 [1,1,1,0,2] (jX N):=jL zP (K72 N) .auto .nil [(.l .u8),.i,.i] [[(.l .u8),.i,.i]] (fun m x=>qp N m x.1 x.2.1 x.2.2.1) ⟨fun x=>(x.1,x.2.1,x.2.2.1),()⟩ N
def T73 (N:Nat):FT:=(73,qD [(.sl .u8),(.int .i64)] [(.sl .u8),(.int .i64),.bool] fun x=>kH N x.1 x.2.1) :: (T72 N)
theorem K73 (N:Nat):AT (T73 N):=fnA zP (K72 N) (.two .auto (.two .auto (.two .auto (.two (.one (.by_ (jX N))) .auto)))) Tryz.func73 (.cons (zaA N) .nil)
def ka (N:Nat):LF:=zY [] ⟨(.isl .u8) :: (.int .i64) :: dr 3 ((.ptr 0 0 10) :: (.ptr 1 0 10) :: dr 96 []),[.cells [(.int .i64),(.int .u32),.str,(.int .i64),.str,(.int .i64),.u8,(.int .u32),(.int .u32),(.isl .u8)] 0,.cells [(.cst (.int .i64 (0:Int))),(.cst (.int .u32 (0:Int))),(.cst (.str ([]:List UInt8))),(.cst (.int .i64 (0:Int))),(.cst (.str ([]:List UInt8))),(.cst (.int .i64 (0:Int))),.u8,(.cst (.int .u32 (0:Int))),(.cst (.int .u32 (0:Int))),(.cst .qF)] 0]⟩ [(.ret,⟨dr 6 ((.ptr 1 0 10) :: dr 96 []),[.cells [(.int .i64),(.int .u32),.str,(.int .i64),.str,(.int .i64),.u8,(.int .u32),(.int .u32),(.isl .u8)] 0,.cells [(.int .i64),(.int .u32),.str,(.int .i64),.str,(.int .i64),.u8,(.int .u32),(.int .u32),(.isl .u8)] 0]⟩),(.ret,⟨dr 6 ((.ptr 1 0 10) :: dr 96 []),[.cells [(.int .i64),(.int .u32),.str,(.int .i64),.str,(.int .i64),.u8,(.int .u32),(.int .u32),(.isl .u8)] 0,.cells [(.cst (.int .i64 (0:Int))),(.cst (.int .u32 (0:Int))),(.cst (.str ([]:List UInt8))),(.cst (.int .i64 (0:Int))),(.cst (.str ([]:List UInt8))),(.cst (.int .i64 (0:Int))),.u8,(.cst (.int .u32 (0:Int))),(.cst (.int .u32 (0:Int))),(.cst .qF)] 0]⟩)] (lsT [(.l .u8),.i,.i,.i,.s,.i,.s,.i,.c,.i,.i,(.l .u8),.c] (fun x=>qQ N N x.1 x.2.1 x.2.2.1 x.2.2.2.1 x.2.2.2.2.1 x.2.2.2.2.2.1 x.2.2.2.2.2.2.1 x.2.2.2.2.2.2.2.1 x.2.2.2.2.2.2.2.2.1 x.2.2.2.2.2.2.2.2.2.1 x.2.2.2.2.2.2.2.2.2.2.1 x.2.2.2.2.2.2.2.2.2.2.2.1 x.2.2.2.2.2.2.2.2.2.2.2.2.1) fun R o κ=>(zz o (fun a68=>κ 0 [.i a68.1,.i a68.2.1,.s a68.2.2.1,.i a68.2.2.2.1,.s a68.2.2.2.2.1,.i a68.2.2.2.2.2.1,.c a68.2.2.2.2.2.2.1,.i a68.2.2.2.2.2.2.2.1,.i a68.2.2.2.2.2.2.2.2.1,.l .u8 a68.2.2.2.2.2.2.2.2.2.1,.i a68.2.2.2.2.2.2.2.2.2.2.1,.i a68.2.2.2.2.2.2.2.2.2.2.2.1,.s a68.2.2.2.2.2.2.2.2.2.2.2.2.1,.i a68.2.2.2.2.2.2.2.2.2.2.2.2.2.1,.s a68.2.2.2.2.2.2.2.2.2.2.2.2.2.2.1,.i a68.2.2.2.2.2.2.2.2.2.2.2.2.2.2.2.1,.c a68.2.2.2.2.2.2.2.2.2.2.2.2.2.2.2.2.1,.i a68.2.2.2.2.2.2.2.2.2.2.2.2.2.2.2.2.2.1,.i a68.2.2.2.2.2.2.2.2.2.2.2.2.2.2.2.2.2.2.1,.l .u8 a68.2.2.2.2.2.2.2.2.2.2.2.2.2.2.2.2.2.2.2]) (fun b69=>κ 1 [.i b69.1,.i b69.2.1,.s b69.2.2.1,.i b69.2.2.2.1,.s b69.2.2.2.2.1,.i b69.2.2.2.2.2.1,.c b69.2.2.2.2.2.2.1,.i b69.2.2.2.2.2.2.2.1,.i b69.2.2.2.2.2.2.2.2.1,.l .u8 b69.2.2.2.2.2.2.2.2.2.1,.c b69.2.2.2.2.2.2.2.2.2.2])))
theorem zbf (N:Nat):Lp Tryz.f42 [1,2] (ka N):=jL zP (K73 N) .auto .nil [(.l .u8),.i,.i,.i,.s,.i,.s,.i,.c,.i,.i,(.l .u8),.c] [[.i,.i,.s,.i,.s,.i,.c,.i,.i,(.l .u8),.i,.i,.s,.i,.s,.i,.c,.i,.i,(.l .u8)],[.i,.i,.s,.i,.s,.i,.c,.i,.i,(.l .u8),.c]] (fun m x=>qQ N m x.1 x.2.1 x.2.2.1 x.2.2.2.1 x.2.2.2.2.1 x.2.2.2.2.2.1 x.2.2.2.2.2.2.1 x.2.2.2.2.2.2.2.1 x.2.2.2.2.2.2.2.2.1 x.2.2.2.2.2.2.2.2.2.1 x.2.2.2.2.2.2.2.2.2.2.1 x.2.2.2.2.2.2.2.2.2.2.2.1 x.2.2.2.2.2.2.2.2.2.2.2.2.1) ⟨fun x=>(Sum.inl (x.1,x.2.1,x.2.2.1,x.2.2.2.1,x.2.2.2.2.1,x.2.2.2.2.2.1,x.2.2.2.2.2.2.1,x.2.2.2.2.2.2.2.1,x.2.2.2.2.2.2.2.2.1,x.2.2.2.2.2.2.2.2.2.1,x.2.2.2.2.2.2.2.2.2.2.1,x.2.2.2.2.2.2.2.2.2.2.2.1,x.2.2.2.2.2.2.2.2.2.2.2.2.1,x.2.2.2.2.2.2.2.2.2.2.2.2.2.1,x.2.2.2.2.2.2.2.2.2.2.2.2.2.2.1,x.2.2.2.2.2.2.2.2.2.2.2.2.2.2.2.1,x.2.2.2.2.2.2.2.2.2.2.2.2.2.2.2.2.1,x.2.2.2.2.2.2.2.2.2.2.2.2.2.2.2.2.2.1,x.2.2.2.2.2.2.2.2.2.2.2.2.2.2.2.2.2.2.1,x.2.2.2.2.2.2.2.2.2.2.2.2.2.2.2.2.2.2.2.1)),fun x=>(Sum.inr (x.1,x.2.1,x.2.2.1,x.2.2.2.1,x.2.2.2.2.1,x.2.2.2.2.2.1,x.2.2.2.2.2.2.1,x.2.2.2.2.2.2.2.1,x.2.2.2.2.2.2.2.2.1,x.2.2.2.2.2.2.2.2.2.1,x.2.2.2.2.2.2.2.2.2.2.1)),()⟩ N
def T42 (N:Nat):FT:=(42,qD [(.sl .u8),(.int .i64),uR1] [uR1] fun x=>za6 N x.1 x.2.1 x.2.2.1) :: (T73 N)
theorem K42 (N:Nat):AT (T42 N):=fnA zP (K73 N) (.two .auto (.one (.by_ (ka N)))) Tryz.func42 (.cons (zbf N) .nil)
def kS (N:Nat):LF:=zY [] ⟨.drop :: .drop :: (.ptr 0 0 10) :: .str :: .drop :: .str :: .drop :: .str :: dr 3 ((.int .i64) :: dr 93 []),[.cells [(.cst (.int .i64 (0:Int))),(.cst (.int .u32 (0:Int))),(.cst (.str ([]:List UInt8))),(.cst (.int .i64 (0:Int))),(.cst (.str ([]:List UInt8))),(.cst (.int .i64 (0:Int))),.u8,(.cst (.int .u32 (0:Int))),(.cst (.int .u32 (0:Int))),(.cst .qF)] 0]⟩ [(.ret,⟨.drop :: .drop :: (.ptr 0 0 10) :: dr 102 [],[.cells [(.cst (.int .i64 (9:Int))),(.cst (.int .u32 (0:Int))),.str,(.int .i64),.str,(.cst (.int .i64 (0:Int))),.u8,(.cst (.int .u32 (0:Int))),(.cst (.int .u32 (0:Int))),(.cst .qF)] 0]⟩),(.exit 0,⟨.drop :: .drop :: (.ptr 0 0 10) :: dr 102 [],[.cells [(.cst (.int .i64 (0:Int))),(.cst (.int .u32 (0:Int))),(.cst (.str ([]:List UInt8))),(.cst (.int .i64 (0:Int))),(.cst (.str ([]:List UInt8))),(.cst (.int .i64 (0:Int))),.u8,(.cst (.int .u32 (0:Int))),(.cst (.int .u32 (0:Int))),(.cst .qF)] 0]⟩)] (lsT [.s,.s,.s,.i,.c] (fun x=>jx N N x.1 x.2.1 x.2.2.1 x.2.2.2.1 x.2.2.2.2.1) fun R o κ=>(zz o (fun a20=>κ 0 [.s a20.1,.i a20.2.1,.s a20.2.2.1,.c a20.2.2.2]) (fun b21=>κ 1 [.c b21])))
theorem zb0 (N:Nat):Lp Tryz.f25 [1,1,1,1,1,1,0,1,0,0,1,2] (kS N):=jL zP (K42 N) .auto .nil [.s,.s,.s,.i,.c] [[.s,.i,.s,.c],[.c]] (fun m x=>jx N m x.1 x.2.1 x.2.2.1 x.2.2.2.1 x.2.2.2.2.1) ⟨fun x=>(Sum.inl (x.1,x.2.1,x.2.2.1,x.2.2.2.1)),fun x=>(Sum.inr x.1),()⟩ N
def T25 (N:Nat):FT:=(25,qD [(.sl .u8)] [uR1] fun x=>zcW N x.1) :: (T42 N)
theorem K25 (N:Nat):AT (T25 N):=fnA zP (K42 N) (.two .auto (.two .auto (.two .auto (.two .auto (.two .auto (.two .auto (.two (.two .auto (.two (.two (.two .auto (.one (.by_ (kS N)))) .auto) .auto)) .auto))))))) Tryz.func25 (.cons (zb0 N) .nil)
def T10 (N:Nat):FT:=(10,qD [uR1,uR1] [.bool] fun x=>zb N x.1 x.2.1) :: (T25 N)
theorem K10 (N:Nat):AT (T10 N):=fnA zP (K25 N) .auto Tryz.func10 .nil
def T54 (N:Nat):FT:=(54,qD [.u8] [.bool] fun x=>kb N x.1) :: (T10 N)
theorem K54 (N:Nat):AT (T54 N):=fnA zP (K10 N) .auto Tryz.func54 .nil
def xi (N:Nat):LF:=zY [] ⟨.str :: .drop :: .drop :: (.int .i64) :: dr 13 [],[]⟩ [(.ret,⟨.drop :: .drop :: (.cst (.bool false)) :: dr 14 [],[]⟩),(.exit 0,⟨.str :: dr 16 [],[]⟩)] (lsT [.s,.i] (fun x=>qm N N x.1 x.2.1) fun R o κ=>(zz o (fun a10=>κ 0 []) (fun b11=>κ 1 [.s b11])))
theorem zcp (N:Nat):Lp Tryz.f30 [1,0,1,2] (xi N):=jL zP (K54 N) .auto .nil [.s,.i] [[],[.s]] (fun m x=>qm N m x.1 x.2.1) ⟨fun _=>(Sum.inl ()),fun x=>(Sum.inr x.1),()⟩ N
def T30 (N:Nat):FT:=(30,qD [.str] [.bool] fun x=>zp N x.1) :: (T54 N)
theorem K30 (N:Nat):AT (T30 N):=fnA zP (K54 N) (.two .auto (.two (.two .auto (.one (.by_ (xi N)))) .auto)) Tryz.func30 (.cons (zcp N) .nil)
def T92 (N:Nat):FT:=(92,qD [.u8] [.bool] fun x=>zef N x.1) :: (T30 N)
theorem K92 (N:Nat):AT (T92 N):=fnA zP (K30 N) .auto Tryz.func92 .nil
def T55 (N:Nat):FT:=(55,qD [.u8] [.bool] fun x=>kP N x.1) :: (T92 N)
theorem K55 (N:Nat):AT (T55 N):=fnA zP (K92 N) .auto Tryz.func55 .nil
def xD (N:Nat):LF:=zY [] ⟨.str :: .drop :: .drop :: (.int .i64) :: dr 13 [],[]⟩ [(.ret,⟨.drop :: .drop :: (.cst (.bool false)) :: dr 14 [],[]⟩),(.exit 0,⟨.str :: dr 16 [],[]⟩)] (lsT [.s,.i] (fun x=>qu N N x.1 x.2.1) fun R o κ=>(zz o (fun a10=>κ 0 []) (fun b11=>κ 1 [.s b11])))
theorem zcA (N:Nat):Lp Tryz.f31 [1,0,1,2] (xD N):=jL zP (K55 N) .auto .nil [.s,.i] [[],[.s]] (fun m x=>qu N m x.1 x.2.1) ⟨fun _=>(Sum.inl ()),fun x=>(Sum.inr x.1),()⟩ N
def T31 (N:Nat):FT:=(31,qD [.str] [.bool] fun x=>zG N x.1) :: (T55 N)
theorem K31 (N:Nat):AT (T31 N):=fnA zP (K55 N) (.two .auto (.two (.two .auto (.one (.by_ (xD N)))) .auto)) Tryz.func31 (.cons (zcA N) .nil)
def T16 (N:Nat):FT:=(16,qD [uR1] [.bool] fun x=>wo N x.1) :: (T31 N)
theorem K16 (N:Nat):AT (T16 N):=fnA zP (K31 N) .auto Tryz.func16 .nil
def T43 (N:Nat):FT:=(43,qD [(.int .u32)] [.str] fun x=>qn N x.1) :: (T16 N)
theorem K43 (N:Nat):AT (T43 N):=fnA zP (K16 N) .auto Tryz.func43 .nil
def xQ (N:Nat):LF:=zY [] ⟨(.int .i64) :: .drop :: .drop :: .str :: (.int .i64) :: dr 19 [],[]⟩ [(.exit 0,⟨dr 3 (.str :: dr 20 []),[]⟩)] (lsT [.i,.s,.i] (fun x=>jN N N x.1 x.2.1 x.2.2.1) fun R o κ=>κ 0 [.s o])
theorem zdr (N:Nat):Lp Tryz.f45 [1,1,0,1,2] (xQ N):=jL zP (K43 N) .auto .nil [.i,.s,.i] [[.s]] (fun m x=>jN N m x.1 x.2.1 x.2.2.1) ⟨fun x=>x.1,()⟩ N
def T45 (N:Nat):FT:=(45,qD [(.int .i64)] [.str] fun x=>jW N x.1) :: (T43 N)
theorem K45 (N:Nat):AT (T45 N):=fnA zP (K43 N) (.two .auto (.two .auto (.two (.two .auto (.one (.by_ (xQ N)))) .auto))) Tryz.func45 (.cons (zdr N) .nil)
def T74 (N:Nat):FT:=(74,qD [(.sl .u8)] [(.sl .u8)] fun x=>zQ N x.1) :: (T45 N)
theorem K74 (N:Nat):AT (T74 N):=fnA zP (K45 N) .auto Tryz.func74 .nil
def T44 (N:Nat):FT:=(44,qD [uR1] [.str] fun x=>zcG N x.1) :: (T74 N)
theorem K44 (N:Nat):AT (T44 N):=fnA zP (K74 N) .auto Tryz.func44 .nil
def T27 (N:Nat):FT:=(27,qD [uR1] [.str] fun x=>zbd N x.1) :: (T44 N)
theorem K27 (N:Nat):AT (T27 N):=fnA zP (K44 N) .auto Tryz.func27 .nil
def T9 (N:Nat):FT:=(9,qD [(.sl .u8),(.int .i64)] [uR1,(.int .i64),.bool] fun x=>zg3 N x.1 x.2.1) :: (T27 N)
theorem K9 (N:Nat):AT (T9 N):=fnA zP (K27 N) .auto Tryz.func9 .nil
def jE (N:Nat):FT:=(T9 N)
theorem zbP (N:Nat):zl7 Tryz.prog glA (zf4 (jE N)) hkA:=zrT zP rfl (K9 N)
def jF (N:Nat):Pl:=.auto
theorem zcj (N:Nat) (x:El (zaV [(.sl .u8)])):k8 Tryz.prog glA (zf4 (jE N)) 1500 (jF N) 5 (jt [(.sl .u8)] x) [] (zci [.bool])=qG N x.1:=by kernel_rfl
theorem zcu (N:Nat):∀ fn b,Tryz.prog.funcs[5]?=some fn -> fn.body=some b -> zaN Tryz.prog glA hkA (jF N) b:=zhb Tryz.func5 (by kernel_rfl) .nil
end Go.Proofs.YtljnndccimlnlaaGreatDoor
