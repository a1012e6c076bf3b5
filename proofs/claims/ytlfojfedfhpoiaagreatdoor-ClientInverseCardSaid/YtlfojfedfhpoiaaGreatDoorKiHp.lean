/- The package variables as the machine sees them. -/
import Derived.Test.YtlfojfedfhpoiaaGreatDoorRows
import Derived.Test.YtlfojfedfhpoiaaGreatDoorB3
import Derived.Test.YtlfojfedfhpoiaaGreatDoorB4
import Derived.KernelRfl
set_option maxRecDepth 100000
namespace Go.Proofs.YtlfojfedfhpoiaaGreatDoor
open Go Go.Gx Go.Mx Go.Sx
noncomputable instance:kF:=⟨fun i=>cond (Nat.beq i 464) (zsF Tryz.f29 [1,1,1,1,0,1,2]) (none)⟩
def aI(k:IntKind)(l:List Int):List AV:=l.map (AV.int k)
def gB(l:List UInt8):List SV:=l.map SV.u8
def gI(k:IntKind)(l:List Int):List SV:=l.map fun n=>.a (.int k n)
def glA:GL:=[some (gB [0,0,0,0,0,0,0,0,0,1,1,1,1,1,0,0,0,0,0,0,0,0,0,0,0,0,0,0,0,0,0,0,1,0,0,0,0,0,0,0,0,0,0,0,0,0,0,0,0,0,0,0,0,0,0,0,0,0,0,0,0,0,0,0,0,0,0,0,0,0,0,0,0,0,0,0,0,0,0,0,0,0,0,0,0,0,0,0,0,0,0,0,0,0,0,0,0,0,0,0,0,0,0,0,0,0,0,0,0,0,0,0,0,0,0,0,0,0,0,0,0,0,0,0,0,0,0,0,0,0,0,0,0,0,0,0,0,0,0,0,0,0,0,0,0,0,0,0,0,0,0,0,0,0,0,0,0,0,0,0,0,0,0,0,0,0,0,0,0,0,0,0,0,0,0,0,0,0,0,0,0,0,0,0,0,0,0,0,0,0,0,0,0,0,0,0,0,0,0,0,0,0,0,0,0,0,0,0,0,0,0,0,0,0,0,0,0,0,0,0,0,0,0,0,0,0,0,0,0,0,0,0,0,0,0,0,0,0,0,0,0,0,0,0,0,0,0,0,0,0,0,0,0,0,0,0]),
 none,
 none,
 some (gI .u64 [1,10,100,1000,10000,100000,1000000,10000000,100000000,1000000000,10000000000,100000000000,1000000000000,10000000000000,100000000000000,1000000000000000,10000000000000000,100000000000000000,1000000000000000000,10000000000000000000]),
 some (gB [0,1,28,2,29,14,24,3,30,22,20,15,25,17,4,8,31,27,13,23,21,19,16,7,26,12,18,6,11,5,10,9]),
 some (gB [0,1,56,2,57,49,28,3,61,58,42,50,38,29,17,4,62,47,59,36,45,43,51,22,53,39,33,30,24,18,12,5,63,55,48,27,60,41,37,16,46,35,44,21,52,32,23,11,54,26,40,15,34,20,31,10,25,14,19,9,13,8,7,6]),
 none,
 none,
 none,
 none,
 none]
def znK(b:Blk):zg:=Arr.of [.lay (aI .u8 [0,0,0,0,0,0,0,0,0,1,1,1,1,1,0,0,0,0,0,0,0,0,0,0,0,0,0,0,0,0,0,0,1,0,0,0,0,0,0,0,0,0,0,0,0,0,0,0,0,0,0,0,0,0,0,0,0,0,0,0,0,0,0,0,0,0,0,0,0,0,0,0,0,0,0,0,0,0,0,0,0,0,0,0,0,0,0,0,0,0,0,0,0,0,0,0,0,0,0,0,0,0,0,0,0,0,0,0,0,0,0,0,0,0,0,0,0,0,0,0,0,0,0,0,0,0,0,0,0,0,0,0,0,0,0,0,0,0,0,0,0,0,0,0,0,0,0,0,0,0,0,0,0,0,0,0,0,0,0,0,0,0,0,0,0,0,0,0,0,0,0,0,0,0,0,0,0,0,0,0,0,0,0,0,0,0,0,0,0,0,0,0,0,0,0,0,0,0,0,0,0,0,0,0,0,0,0,0,0,0,0,0,0,0,0,0,0,0,0,0,0,0,0,0,0,0,0,0,0,0,0,0,0,0,0,0,0,0,0,0,0,0,0,0,0,0,0,0,0,0,0,0,0,0,0,0]),
 .lay [.ptr 12 0 0 3],
 b,
 .lay (aI .u64 [1,10,100,1000,10000,100000,1000000,10000000,100000000,1000000000,10000000000,100000000000,1000000000000,10000000000000,100000000000000,1000000000000000,10000000000000000,100000000000000000,1000000000000000000,10000000000000000000]),
 .lay (aI .u8 [0,1,28,2,29,14,24,3,30,22,20,15,25,17,4,8,31,27,13,23,21,19,16,7,26,12,18,6,11,5,10,9]),
 .lay (aI .u8 [0,1,56,2,57,49,28,3,61,58,42,50,38,29,17,4,62,47,59,36,45,43,51,22,53,39,33,30,24,18,12,5,63,55,48,27,60,41,37,16,46,35,44,21,52,32,23,11,54,26,40,15,34,20,31,10,25,14,19,9,13,8,7,6]),
 .lay [.opq],
 .lay [.opq],
 .lay (aI .u8 [240,240,240,240,240,240,240,240,240,240,240,240,240,240,240,240,240,240,240,240,240,240,240,240,240,240,240,240,240,240,240,240,240,240,240,240,240,240,240,240,240,240,240,240,240,240,240,240,240,240,240,240,240,240,240,240,240,240,240,240,240,240,240,240,240,240,240,240,240,240,240,240,240,240,240,240,240,240,240,240,240,240,240,240,240,240,240,240,240,240,240,240,240,240,240,240,240,240,240,240,240,240,240,240,240,240,240,240,240,240,240,240,240,240,240,240,240,240,240,240,240,240,240,240,240,240,240,240,241,241,241,241,241,241,241,241,241,241,241,241,241,241,241,241,241,241,241,241,241,241,241,241,241,241,241,241,241,241,241,241,241,241,241,241,241,241,241,241,241,241,241,241,241,241,241,241,241,241,241,241,241,241,241,241,241,241,241,241,241,241,241,241,241,241,2,2,2,2,2,2,2,2,2,2,2,2,2,2,2,2,2,2,2,2,2,2,2,2,2,2,2,2,2,2,19,3,3,3,3,3,3,3,3,3,3,3,3,35,3,3,52,4,4,4,68,241,241,241,241,241,241,241,241,241,241,241]),
 .lay (aI .u8 [128,191,160,191,128,159,144,191,128,143,0,0,0,0,0,0,0,0,0,0,0,0,0,0,0,0,0,0,0,0,0,0]),
 .dead,
 .lay (aI .u16 [9,13,1,32,133,101,160,5760,5600,8192,8202,1,8232,8233,1,8239,8287,48,12288,12288,1]),
 .lay [.sl 11 0 7 3 0 false,.qC,.int .i64 (2)]]
def hgA:zg:=znK (.lay [.iv (-9223372036854775808) 1])
def hgB:zg:=znK (.lay [.iv 2 9223372036854775807])
theorem lays:zeY Tryz.prog 9 Rows.clientInverseRow.laid (Arr.of (List.replicate Tryz.prog.globals.size .dead))=some (znK .dead):=by kernel_rfl
def tab:List (FuncId×XK):=[(114,.same),(115,.makeNoZero 24 5),(116,.indexByte),(199,.index 2),(219,.indexByte),(234,.count),(235,.index 2)]
theorem hmo:Tryz.prog.follows .mixedOrders=true:=by kernel_rfl
theorem hng:zpI Tryz.prog:=by
 have h:(Tryz.prog.funcs.toList.all fun fn=>!(fn.name == "runtime.NumGoroutine"))=true:=by kernel_rfl
 intro f fn hf
 rw[List.all_eq_true] at h
 have:=h fn (by rw[Array.mem_toList_iff];exact Array.mem_of_getElem? hf)
 simpa using this
theorem xfn:∀ f k,(f,k) ∈ tab->XFn Tryz.prog f k:=by
 intro f k h
 simp only[tab,List.mem_cons,Prod.mk.injEq,List.mem_nil_iff,or_false] at h
 rcases h with⟨rfl,rfl⟩|⟨rfl,rfl⟩|⟨rfl,rfl⟩|⟨rfl,rfl⟩|⟨rfl,rfl⟩|⟨rfl,rfl⟩|⟨rfl,rfl⟩
 ·exact⟨_,_,Tryz.func114,by kernel_rfl,by kernel_rfl,by kernel_rfl,by kernel_rfl,rfl⟩
 ·exact⟨_,Extern.BytealgMakeNoZero.makeNoZero #[3] #[24],Tryz.func115,by kernel_rfl,by kernel_rfl,by kernel_rfl,by kernel_rfl,⟨#[3],rfl⟩,by kernel_rfl⟩
 ·exact⟨_,_,Tryz.func116,by kernel_rfl,by kernel_rfl,by kernel_rfl,by kernel_rfl,rfl⟩
 ·exact⟨_,_,Tryz.func199,by kernel_rfl,by kernel_rfl,by kernel_rfl,by kernel_rfl,rfl,by kernel_rfl⟩
 ·exact⟨_,_,Tryz.func219,by kernel_rfl,by kernel_rfl,by kernel_rfl,by kernel_rfl,rfl⟩
 ·exact⟨_,_,Tryz.func234,by kernel_rfl,by kernel_rfl,by kernel_rfl,by kernel_rfl,rfl⟩
 ·exact⟨_,_,Tryz.func235,by kernel_rfl,by kernel_rfl,by kernel_rfl,by kernel_rfl,rfl,by kernel_rfl⟩
end Go.Proofs.YtlfojfedfhpoiaaGreatDoor
