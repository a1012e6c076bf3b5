/- The package variables as the machine sees them. -/
import Derived.Test.YtjojhgpaaocnoaaGreatDoorRows
import Derived.Test.YtjojhgpaaocnoaaGreatDoorB5
import Derived.KernelRfl
set_option maxRecDepth 100000
namespace Go.Proofs.YtjojhgpaaocnoaaGreatDoor
open Go Go.Gx Go.Mx Go.Sx
noncomputable instance:qE:=⟨fun i=>cond (Nat.beq i 560) (ziL Tryz.f35 [1,1,1,0,1,2]) (cond (Nat.beq i 1360) (ziL Tryz.f85 [1,1,1,1,0,1,2]) (cond (Nat.beq i 2704) (ziL Tryz.f169 [1,0,1,2]) (cond (Nat.beq i 4272) (ziL Tryz.f267 [1,0,1,2]) (cond (Nat.beq i 5552) (ziL Tryz.f347 [1,1,1,1,1,0,1,2]) (cond (Nat.beq i 6784) (ziL Tryz.f424 [1,1,1,0,1,2]) (none))))))⟩
def aI(k:IntKind)(l:List Int):List AV:=l.map (AV.int k)
def gB(l:List UInt8):List SV:=l.map SV.u8
def gI(k:IntKind)(l:List Int):List SV:=l.map fun n=>.a (.int k n)
def glA:GL:=[none,
 some (gI .u64 [1,10,100,1000,10000,100000,1000000,10000000,100000000,1000000000,10000000000,100000000000,1000000000000,10000000000000,100000000000000,1000000000000000,10000000000000000,100000000000000000,1000000000000000000,10000000000000000000]),
 none,
 none,
 some (gB [0,1,28,2,29,14,24,3,30,22,20,15,25,17,4,8,31,27,13,23,21,19,16,7,26,12,18,6,11,5,10,9]),
 some (gB [0,1,56,2,57,49,28,3,61,58,42,50,38,29,17,4,62,47,59,36,45,43,51,22,53,39,33,30,24,18,12,5,63,55,48,27,60,41,37,16,46,35,44,21,52,32,23,11,54,26,40,15,34,20,31,10,25,14,19,9,13,8,7,6]),
 none,
 none,
 some (gB [0,0,0,0,0,0,0,0,0,1,1,1,1,1,0,0,0,0,0,0,0,0,0,0,0,0,0,0,0,0,0,0,1,0,0,0,0,0,0,0,0,0,0,0,0,0,0,0,0,0,0,0,0,0,0,0,0,0,0,0,0,0,0,0,0,0,0,0,0,0,0,0,0,0,0,0,0,0,0,0,0,0,0,0,0,0,0,0,0,0,0,0,0,0,0,0,0,0,0,0,0,0,0,0,0,0,0,0,0,0,0,0,0,0,0,0,0,0,0,0,0,0,0,0,0,0,0,0,0,0,0,0,0,0,0,0,0,0,0,0,0,0,0,0,0,0,0,0,0,0,0,0,0,0,0,0,0,0,0,0,0,0,0,0,0,0,0,0,0,0,0,0,0,0,0,0,0,0,0,0,0,0,0,0,0,0,0,0,0,0,0,0,0,0,0,0,0,0,0,0,0,0,0,0,0,0,0,0,0,0,0,0,0,0,0,0,0,0,0,0,0,0,0,0,0,0,0,0,0,0,0,0,0,0,0,0,0,0,0,0,0,0,0,0,0,0,0,0,0,0,0,0,0,0,0,0]),
 none,
 none]
def znW(b:Blk):za:=Arr.of [  b,
 .lay (aI .u64 [1,10,100,1000,10000,100000,1000000,10000000,100000000,1000000000,10000000000,100000000000,1000000000000,10000000000000,100000000000000,1000000000000000,10000000000000000,100000000000000000,1000000000000000000,10000000000000000000]),
 .lay (aI .u8 [240,240,240,240,240,240,240,240,240,240,240,240,240,240,240,240,240,240,240,240,240,240,240,240,240,240,240,240,240,240,240,240,240,240,240,240,240,240,240,240,240,240,240,240,240,240,240,240,240,240,240,240,240,240,240,240,240,240,240,240,240,240,240,240,240,240,240,240,240,240,240,240,240,240,240,240,240,240,240,240,240,240,240,240,240,240,240,240,240,240,240,240,240,240,240,240,240,240,240,240,240,240,240,240,240,240,240,240,240,240,240,240,240,240,240,240,240,240,240,240,240,240,240,240,240,240,240,240,241,241,241,241,241,241,241,241,241,241,241,241,241,241,241,241,241,241,241,241,241,241,241,241,241,241,241,241,241,241,241,241,241,241,241,241,241,241,241,241,241,241,241,241,241,241,241,241,241,241,241,241,241,241,241,241,241,241,241,241,241,241,241,241,241,241,2,2,2,2,2,2,2,2,2,2,2,2,2,2,2,2,2,2,2,2,2,2,2,2,2,2,2,2,2,2,19,3,3,3,3,3,3,3,3,3,3,3,3,35,3,3,52,4,4,4,68,241,241,241,241,241,241,241,241,241,241,241]),
 .lay (aI .u8 [128,191,160,191,128,159,144,191,128,143,0,0,0,0,0,0,0,0,0,0,0,0,0,0,0,0,0,0,0,0,0,0]),
 .lay (aI .u8 [0,1,28,2,29,14,24,3,30,22,20,15,25,17,4,8,31,27,13,23,21,19,16,7,26,12,18,6,11,5,10,9]),
 .lay (aI .u8 [0,1,56,2,57,49,28,3,61,58,42,50,38,29,17,4,62,47,59,36,45,43,51,22,53,39,33,30,24,18,12,5,63,55,48,27,60,41,37,16,46,35,44,21,52,32,23,11,54,26,40,15,34,20,31,10,25,14,19,9,13,8,7,6]),
 .lay [.opq],
 .lay [.opq],
 .lay (aI .u8 [0,0,0,0,0,0,0,0,0,1,1,1,1,1,0,0,0,0,0,0,0,0,0,0,0,0,0,0,0,0,0,0,1,0,0,0,0,0,0,0,0,0,0,0,0,0,0,0,0,0,0,0,0,0,0,0,0,0,0,0,0,0,0,0,0,0,0,0,0,0,0,0,0,0,0,0,0,0,0,0,0,0,0,0,0,0,0,0,0,0,0,0,0,0,0,0,0,0,0,0,0,0,0,0,0,0,0,0,0,0,0,0,0,0,0,0,0,0,0,0,0,0,0,0,0,0,0,0,0,0,0,0,0,0,0,0,0,0,0,0,0,0,0,0,0,0,0,0,0,0,0,0,0,0,0,0,0,0,0,0,0,0,0,0,0,0,0,0,0,0,0,0,0,0,0,0,0,0,0,0,0,0,0,0,0,0,0,0,0,0,0,0,0,0,0,0,0,0,0,0,0,0,0,0,0,0,0,0,0,0,0,0,0,0,0,0,0,0,0,0,0,0,0,0,0,0,0,0,0,0,0,0,0,0,0,0,0,0,0,0,0,0,0,0,0,0,0,0,0,0,0,0,0,0,0,0]),
 .lay [.ptr 12 0 0 3],
 .dead,
 .lay (aI .u16 [9,13,1,32,133,101,160,5760,5600,8192,8202,1,8232,8233,1,8239,8287,48,12288,12288,1]),
 .lay [.sl 11 0 7 3 0 false,.qj,.int .i64 (2)]]
def hgA:za:=znW (.lay [.iv (-9223372036854775808) 1])
def hgB:za:=znW (.lay [.iv 2 9223372036854775807])
theorem lays:zbk Tryz.prog 9 Rows.scriptReportsRow.laid (Arr.of (List.replicate Tryz.prog.globals.size .dead))=some (znW .dead):=by kernel_rfl
def tab:List (FuncId×XK):=[(17,.count),(38,.same),(48,.index 0),(67,.count),(70,.index 0),(72,.indexByte),(100,.indexByte),(142,.zjl),(238,.zo6 .i64),(436,.znD .u32),(458,.zqs .u32),(459,.zo6 .u64),(468,.makeNoZero 25 5),(476,.zl0),(477,.zqs .i32),(478,.zl0),(479,.marked),(481,.marked),(482,.zo6 .i32)]
theorem hmo:Tryz.prog.follows .mixedOrders=true:=by kernel_rfl
theorem hng:zja Tryz.prog:=by
 have h:(Tryz.prog.funcs.toList.all fun fn=>!(fn.name == "runtime.NumGoroutine"))=true:=by kernel_rfl
 intro f fn hf
 rw[List.all_eq_true] at h
 have:=h fn (by rw[Array.mem_toList_iff];exact Array.mem_of_getElem? hf)
 simpa using this
theorem xfn:∀ f k,(f,k) ∈ tab->XFn Tryz.prog f k:=by
 intro f k h
 simp only[tab,List.mem_cons,Prod.mk.injEq,List.mem_nil_iff,or_false] at h
 rcases h with⟨rfl,rfl⟩|⟨rfl,rfl⟩|⟨rfl,rfl⟩|⟨rfl,rfl⟩|⟨rfl,rfl⟩|⟨rfl,rfl⟩|⟨rfl,rfl⟩|⟨rfl,rfl⟩|⟨rfl,rfl⟩|⟨rfl,rfl⟩|⟨rfl,rfl⟩|⟨rfl,rfl⟩|⟨rfl,rfl⟩|⟨rfl,rfl⟩|⟨rfl,rfl⟩|⟨rfl,rfl⟩|⟨rfl,rfl⟩|⟨rfl,rfl⟩|⟨rfl,rfl⟩
 ·exact⟨_,_,Tryz.func17,by kernel_rfl,by kernel_rfl,by kernel_rfl,by kernel_rfl,rfl⟩
 ·exact⟨_,_,Tryz.func38,by kernel_rfl,by kernel_rfl,by kernel_rfl,by kernel_rfl,rfl⟩
 ·exact⟨_,_,Tryz.func48,by kernel_rfl,by kernel_rfl,by kernel_rfl,by kernel_rfl,rfl,by kernel_rfl⟩
 ·exact⟨_,_,Tryz.func67,by kernel_rfl,by kernel_rfl,by kernel_rfl,by kernel_rfl,rfl⟩
 ·exact⟨_,_,Tryz.func70,by kernel_rfl,by kernel_rfl,by kernel_rfl,by kernel_rfl,rfl,by kernel_rfl⟩
 ·exact⟨_,_,Tryz.func72,by kernel_rfl,by kernel_rfl,by kernel_rfl,by kernel_rfl,rfl⟩
 ·exact⟨_,_,Tryz.func100,by kernel_rfl,by kernel_rfl,by kernel_rfl,by kernel_rfl,rfl⟩
 ·exact⟨_,_,Tryz.func142,by kernel_rfl,by kernel_rfl,by kernel_rfl,by kernel_rfl,rfl⟩
 ·exact⟨_,_,Tryz.func238,by kernel_rfl,by kernel_rfl,by kernel_rfl,by kernel_rfl,rfl⟩
 ·exact⟨_,_,Tryz.func436,by kernel_rfl,by kernel_rfl,by kernel_rfl,by kernel_rfl,rfl⟩
 ·exact⟨_,_,Tryz.func458,by kernel_rfl,by kernel_rfl,by kernel_rfl,by kernel_rfl,rfl⟩
 ·exact⟨_,_,Tryz.func459,by kernel_rfl,by kernel_rfl,by kernel_rfl,by kernel_rfl,rfl⟩
 ·exact⟨_,Extern.BytealgMakeNoZero.makeNoZero #[3] #[25],Tryz.func468,by kernel_rfl,by kernel_rfl,by kernel_rfl,by kernel_rfl,⟨#[3],rfl⟩,by kernel_rfl⟩
 ·exact⟨_,_,Tryz.func476,by kernel_rfl,by kernel_rfl,by kernel_rfl,by kernel_rfl,.disable,rfl⟩
 ·exact⟨_,_,Tryz.func477,by kernel_rfl,by kernel_rfl,by kernel_rfl,by kernel_rfl,rfl⟩
 ·exact⟨_,_,Tryz.func478,by kernel_rfl,by kernel_rfl,by kernel_rfl,by kernel_rfl,.enable,rfl⟩
 ·exact⟨_,_,Tryz.func479,by kernel_rfl,by kernel_rfl,by kernel_rfl,by kernel_rfl,.acquire,rfl⟩
 ·exact⟨_,_,Tryz.func481,by kernel_rfl,by kernel_rfl,by kernel_rfl,by kernel_rfl,.releaseMerge,rfl⟩
 ·exact⟨_,_,Tryz.func482,by kernel_rfl,by kernel_rfl,by kernel_rfl,by kernel_rfl,rfl⟩
end Go.Proofs.YtjojhgpaaocnoaaGreatDoor
