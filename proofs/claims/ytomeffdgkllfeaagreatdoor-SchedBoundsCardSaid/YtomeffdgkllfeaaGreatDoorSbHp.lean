/- The package variables as the machine sees them. -/
import Derived.Test.YtomeffdgkllfeaaGreatDoorRows
import Derived.Test.YtomeffdgkllfeaaGreatDoorB5
import Derived.KernelRfl
set_option maxRecDepth 100000
namespace Go.Proofs.YtomeffdgkllfeaaGreatDoor
open Go Go.Gx Go.Mx Go.Sx
noncomputable instance:qk:=⟨fun i=>cond (Nat.beq i 160) (zeE Tryz.f10 [1,1,1,0,1,2]) (cond (Nat.beq i 240) (zeE Tryz.f15 [1,1,1,1,0,1,2]) (cond (Nat.beq i 1456) (zeE Tryz.f91 [1,0,1,2]) (cond (Nat.beq i 3168) (zeE Tryz.f198 [1,0,1,2]) (cond (Nat.beq i 4560) (zeE Tryz.f285 [1,1,1,1,1,0,1,2]) (cond (Nat.beq i 6048) (zeE Tryz.f378 [1,1,1,0,1,2]) (none))))))⟩
def aI(k:IntKind)(l:List Int):List AV:=l.map (AV.int k)
def gB(l:List UInt8):List SV:=l.map SV.u8
def gI(k:IntKind)(l:List Int):List SV:=l.map fun n=>.a (.int k n)
def glA:GL:=[none,
 none,
 none,
 some (gB [0,0,0,0,0,0,0,0,0,1,1,1,1,1,0,0,0,0,0,0,0,0,0,0,0,0,0,0,0,0,0,0,1,0,0,0,0,0,0,0,0,0,0,0,0,0,0,0,0,0,0,0,0,0,0,0,0,0,0,0,0,0,0,0,0,0,0,0,0,0,0,0,0,0,0,0,0,0,0,0,0,0,0,0,0,0,0,0,0,0,0,0,0,0,0,0,0,0,0,0,0,0,0,0,0,0,0,0,0,0,0,0,0,0,0,0,0,0,0,0,0,0,0,0,0,0,0,0,0,0,0,0,0,0,0,0,0,0,0,0,0,0,0,0,0,0,0,0,0,0,0,0,0,0,0,0,0,0,0,0,0,0,0,0,0,0,0,0,0,0,0,0,0,0,0,0,0,0,0,0,0,0,0,0,0,0,0,0,0,0,0,0,0,0,0,0,0,0,0,0,0,0,0,0,0,0,0,0,0,0,0,0,0,0,0,0,0,0,0,0,0,0,0,0,0,0,0,0,0,0,0,0,0,0,0,0,0,0,0,0,0,0,0,0,0,0,0,0,0,0,0,0,0,0,0,0]),
 some (gI .u64 [1,10,100,1000,10000,100000,1000000,10000000,100000000,1000000000,10000000000,100000000000,1000000000000,10000000000000,100000000000000,1000000000000000,10000000000000000,100000000000000000,1000000000000000000,10000000000000000000]),
 none,
 some (gB [0,1,28,2,29,14,24,3,30,22,20,15,25,17,4,8,31,27,13,23,21,19,16,7,26,12,18,6,11,5,10,9]),
 some (gB [0,1,56,2,57,49,28,3,61,58,42,50,38,29,17,4,62,47,59,36,45,43,51,22,53,39,33,30,24,18,12,5,63,55,48,27,60,41,37,16,46,35,44,21,52,32,23,11,54,26,40,15,34,20,31,10,25,14,19,9,13,8,7,6]),
 none,
 none,
 none]
def znv(b:Blk):zb:=Arr.of [  b,
 .lay [.opq],
 .lay [.opq],
 .lay (aI .u8 [0,0,0,0,0,0,0,0,0,1,1,1,1,1,0,0,0,0,0,0,0,0,0,0,0,0,0,0,0,0,0,0,1,0,0,0,0,0,0,0,0,0,0,0,0,0,0,0,0,0,0,0,0,0,0,0,0,0,0,0,0,0,0,0,0,0,0,0,0,0,0,0,0,0,0,0,0,0,0,0,0,0,0,0,0,0,0,0,0,0,0,0,0,0,0,0,0,0,0,0,0,0,0,0,0,0,0,0,0,0,0,0,0,0,0,0,0,0,0,0,0,0,0,0,0,0,0,0,0,0,0,0,0,0,0,0,0,0,0,0,0,0,0,0,0,0,0,0,0,0,0,0,0,0,0,0,0,0,0,0,0,0,0,0,0,0,0,0,0,0,0,0,0,0,0,0,0,0,0,0,0,0,0,0,0,0,0,0,0,0,0,0,0,0,0,0,0,0,0,0,0,0,0,0,0,0,0,0,0,0,0,0,0,0,0,0,0,0,0,0,0,0,0,0,0,0,0,0,0,0,0,0,0,0,0,0,0,0,0,0,0,0,0,0,0,0,0,0,0,0,0,0,0,0,0,0]),
 .lay (aI .u64 [1,10,100,1000,10000,100000,1000000,10000000,100000000,1000000000,10000000000,100000000000,1000000000000,10000000000000,100000000000000,1000000000000000,10000000000000000,100000000000000000,1000000000000000000,10000000000000000000]),
 .lay [.ptr 12 0 0 3],
 .lay (aI .u8 [0,1,28,2,29,14,24,3,30,22,20,15,25,17,4,8,31,27,13,23,21,19,16,7,26,12,18,6,11,5,10,9]),
 .lay (aI .u8 [0,1,56,2,57,49,28,3,61,58,42,50,38,29,17,4,62,47,59,36,45,43,51,22,53,39,33,30,24,18,12,5,63,55,48,27,60,41,37,16,46,35,44,21,52,32,23,11,54,26,40,15,34,20,31,10,25,14,19,9,13,8,7,6]),
 .lay (aI .u8 [240,240,240,240,240,240,240,240,240,240,240,240,240,240,240,240,240,240,240,240,240,240,240,240,240,240,240,240,240,240,240,240,240,240,240,240,240,240,240,240,240,240,240,240,240,240,240,240,240,240,240,240,240,240,240,240,240,240,240,240,240,240,240,240,240,240,240,240,240,240,240,240,240,240,240,240,240,240,240,240,240,240,240,240,240,240,240,240,240,240,240,240,240,240,240,240,240,240,240,240,240,240,240,240,240,240,240,240,240,240,240,240,240,240,240,240,240,240,240,240,240,240,240,240,240,240,240,240,241,241,241,241,241,241,241,241,241,241,241,241,241,241,241,241,241,241,241,241,241,241,241,241,241,241,241,241,241,241,241,241,241,241,241,241,241,241,241,241,241,241,241,241,241,241,241,241,241,241,241,241,241,241,241,241,241,241,241,241,241,241,241,241,241,241,2,2,2,2,2,2,2,2,2,2,2,2,2,2,2,2,2,2,2,2,2,2,2,2,2,2,2,2,2,2,19,3,3,3,3,3,3,3,3,3,3,3,3,35,3,3,52,4,4,4,68,241,241,241,241,241,241,241,241,241,241,241]),
 .lay (aI .u8 [128,191,160,191,128,159,144,191,128,143,0,0,0,0,0,0,0,0,0,0,0,0,0,0,0,0,0,0,0,0,0,0]),
 .dead,
 .lay (aI .u16 [9,13,1,32,133,101,160,5760,5600,8192,8202,1,8232,8233,1,8239,8287,48,12288,12288,1]),
 .lay [.sl 11 0 7 3 0 false,.qj,.int .i64 (2)]]
def hgA:zb:=znv (.lay [.iv (-9223372036854775808) 1])
def hgB:zb:=znv (.lay [.iv 2 9223372036854775807])
theorem lays:zbd Tryz.prog 9 Rows.schedBoundsRow.laid (Arr.of (List.replicate Tryz.prog.globals.size .dead))=some (znv .dead):=by kernel_rfl
def tab:List (FuncId×XK):=[(67,.zi9),(96,.index 0),(131,.indexByte),(164,.zox .i64),(390,.zm9 .u32),(418,.zpO .u32),(419,.zox .u64),(428,.same),(429,.makeNoZero 32 5),(430,.indexByte),(442,.zlB),(443,.zpO .i32),(444,.zlB),(445,.marked),(447,.marked),(448,.zox .i32),(452,.count),(453,.index 0)]
def zd8:List AV:=[.str [78,79,79,80]]
def zjh:AV:=.tup [.int .i64 (1),.bool true]
def zoK:List AV->zb->Option CR:=fun args h=>match AV.zgl args zd8 with
 |true=>some (.ret zjh h)
 |false=>none
def zpS:Option CR->Bool
 |some (.ret v _)=>AV.beq v zjh
 |_=>false
def hkF:z7:=zt (zex tab) 140 zoK
theorem hmo:Tryz.prog.follows .mixedOrders=true:=by kernel_rfl
theorem hng:zgi Tryz.prog:=by
 have h:(Tryz.prog.funcs.toList.all fun fn=>!(fn.name == "runtime.NumGoroutine"))=true:=by kernel_rfl
 intro f fn hf
 rw[List.all_eq_true] at h
 have:=h fn (by rw[Array.mem_toList_iff];exact Array.mem_of_getElem? hf)
 simpa using this
theorem xfn:∀ f k,(f,k) ∈ tab->XFn Tryz.prog f k:=by
 intro f k h
 simp only[tab,List.mem_cons,Prod.mk.injEq,List.mem_nil_iff,or_false] at h
 rcases h with⟨rfl,rfl⟩|⟨rfl,rfl⟩|⟨rfl,rfl⟩|⟨rfl,rfl⟩|⟨rfl,rfl⟩|⟨rfl,rfl⟩|⟨rfl,rfl⟩|⟨rfl,rfl⟩|⟨rfl,rfl⟩|⟨rfl,rfl⟩|⟨rfl,rfl⟩|⟨rfl,rfl⟩|⟨rfl,rfl⟩|⟨rfl,rfl⟩|⟨rfl,rfl⟩|⟨rfl,rfl⟩|⟨rfl,rfl⟩|⟨rfl,rfl⟩
 ·exact⟨_,_,Tryz.func67,by kernel_rfl,by kernel_rfl,by kernel_rfl,by kernel_rfl,rfl⟩
 ·exact⟨_,_,Tryz.func96,by kernel_rfl,by kernel_rfl,by kernel_rfl,by kernel_rfl,rfl,by kernel_rfl⟩
 ·exact⟨_,_,Tryz.func131,by kernel_rfl,by kernel_rfl,by kernel_rfl,by kernel_rfl,rfl⟩
 ·exact⟨_,_,Tryz.func164,by kernel_rfl,by kernel_rfl,by kernel_rfl,by kernel_rfl,rfl⟩
 ·exact⟨_,_,Tryz.func390,by kernel_rfl,by kernel_rfl,by kernel_rfl,by kernel_rfl,rfl⟩
 ·exact⟨_,_,Tryz.func418,by kernel_rfl,by kernel_rfl,by kernel_rfl,by kernel_rfl,rfl⟩
 ·exact⟨_,_,Tryz.func419,by kernel_rfl,by kernel_rfl,by kernel_rfl,by kernel_rfl,rfl⟩
 ·exact⟨_,_,Tryz.func428,by kernel_rfl,by kernel_rfl,by kernel_rfl,by kernel_rfl,rfl⟩
 ·exact⟨_,Extern.BytealgMakeNoZero.makeNoZero #[3] #[32],Tryz.func429,by kernel_rfl,by kernel_rfl,by kernel_rfl,by kernel_rfl,⟨#[3],rfl⟩,by kernel_rfl⟩
 ·exact⟨_,_,Tryz.func430,by kernel_rfl,by kernel_rfl,by kernel_rfl,by kernel_rfl,rfl⟩
 ·exact⟨_,_,Tryz.func442,by kernel_rfl,by kernel_rfl,by kernel_rfl,by kernel_rfl,.disable,rfl⟩
 ·exact⟨_,_,Tryz.func443,by kernel_rfl,by kernel_rfl,by kernel_rfl,by kernel_rfl,rfl⟩
 ·exact⟨_,_,Tryz.func444,by kernel_rfl,by kernel_rfl,by kernel_rfl,by kernel_rfl,.enable,rfl⟩
 ·exact⟨_,_,Tryz.func445,by kernel_rfl,by kernel_rfl,by kernel_rfl,by kernel_rfl,.acquire,rfl⟩
 ·exact⟨_,_,Tryz.func447,by kernel_rfl,by kernel_rfl,by kernel_rfl,by kernel_rfl,.releaseMerge,rfl⟩
 ·exact⟨_,_,Tryz.func448,by kernel_rfl,by kernel_rfl,by kernel_rfl,by kernel_rfl,rfl⟩
 ·exact⟨_,_,Tryz.func452,by kernel_rfl,by kernel_rfl,by kernel_rfl,by kernel_rfl,rfl⟩
 ·exact⟨_,_,Tryz.func453,by kernel_rfl,by kernel_rfl,by kernel_rfl,by kernel_rfl,rfl,by kernel_rfl⟩
end Go.Proofs.YtomeffdgkllfeaaGreatDoor
