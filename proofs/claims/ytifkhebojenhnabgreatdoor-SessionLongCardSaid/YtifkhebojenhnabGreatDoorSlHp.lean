/- The package variables as the machine sees them. -/
import Derived.Test.YtifkhebojenhnabGreatDoorRows
import Derived.Test.YtifkhebojenhnabGreatDoorB5
import Derived.KernelRfl
set_option maxRecDepth 100000
namespace Go.Proofs.YtifkhebojenhnabGreatDoor
open Go Go.Gx Go.Mx Go.Sx
noncomputable instance:z6:=⟨fun i=>cond (Nat.beq i 976) (zi5 Tryz.f61 [1,0,1,2]) (cond (Nat.beq i 3840) (zi5 Tryz.f240 [1,1,1,1,1,0,1,2]) (cond (Nat.beq i 5184) (zi5 Tryz.f324 [1,1,1,0,1,2]) (none)))⟩
def aI(k:IntKind)(l:List Int):List AV:=l.map (AV.int k)
def glA:GL:=[none,
 none,
 none,
 none,
 none,
 none,
 none,
 none,
 none,
 none,
 none,
 none]
def ziM(b:Blk):zb:=Arr.of [.lay [.opq],
 b,
 .lay (aI .u8 [0,0,0,0,0,0,0,0,0,1,1,1,1,1,0,0,0,0,0,0,0,0,0,0,0,0,0,0,0,0,0,0,1,0,0,0,0,0,0,0,0,0,0,0,0,0,0,0,0,0,0,0,0,0,0,0,0,0,0,0,0,0,0,0,0,0,0,0,0,0,0,0,0,0,0,0,0,0,0,0,0,0,0,0,0,0,0,0,0,0,0,0,0,0,0,0,0,0,0,0,0,0,0,0,0,0,0,0,0,0,0,0,0,0,0,0,0,0,0,0,0,0,0,0,0,0,0,0,0,0,0,0,0,0,0,0,0,0,0,0,0,0,0,0,0,0,0,0,0,0,0,0,0,0,0,0,0,0,0,0,0,0,0,0,0,0,0,0,0,0,0,0,0,0,0,0,0,0,0,0,0,0,0,0,0,0,0,0,0,0,0,0,0,0,0,0,0,0,0,0,0,0,0,0,0,0,0,0,0,0,0,0,0,0,0,0,0,0,0,0,0,0,0,0,0,0,0,0,0,0,0,0,0,0,0,0,0,0,0,0,0,0,0,0,0,0,0,0,0,0,0,0,0,0,0,0]),
 .lay [.ptr 13 0 0 3],
 .lay [.opq],
 .lay [.opq],
 .lay (aI .u64 [1,10,100,1000,10000,100000,1000000,10000000,100000000,1000000000,10000000000,100000000000,1000000000000,10000000000000,100000000000000,1000000000000000,10000000000000000,100000000000000000,1000000000000000000,10000000000000000000]),
 .lay (aI .u8 [0,1,28,2,29,14,24,3,30,22,20,15,25,17,4,8,31,27,13,23,21,19,16,7,26,12,18,6,11,5,10,9]),
 .lay (aI .u8 [0,1,56,2,57,49,28,3,61,58,42,50,38,29,17,4,62,47,59,36,45,43,51,22,53,39,33,30,24,18,12,5,63,55,48,27,60,41,37,16,46,35,44,21,52,32,23,11,54,26,40,15,34,20,31,10,25,14,19,9,13,8,7,6]),
 .lay (aI .u8 [240,240,240,240,240,240,240,240,240,240,240,240,240,240,240,240,240,240,240,240,240,240,240,240,240,240,240,240,240,240,240,240,240,240,240,240,240,240,240,240,240,240,240,240,240,240,240,240,240,240,240,240,240,240,240,240,240,240,240,240,240,240,240,240,240,240,240,240,240,240,240,240,240,240,240,240,240,240,240,240,240,240,240,240,240,240,240,240,240,240,240,240,240,240,240,240,240,240,240,240,240,240,240,240,240,240,240,240,240,240,240,240,240,240,240,240,240,240,240,240,240,240,240,240,240,240,240,240,241,241,241,241,241,241,241,241,241,241,241,241,241,241,241,241,241,241,241,241,241,241,241,241,241,241,241,241,241,241,241,241,241,241,241,241,241,241,241,241,241,241,241,241,241,241,241,241,241,241,241,241,241,241,241,241,241,241,241,241,241,241,241,241,241,241,2,2,2,2,2,2,2,2,2,2,2,2,2,2,2,2,2,2,2,2,2,2,2,2,2,2,2,2,2,2,19,3,3,3,3,3,3,3,3,3,3,3,3,35,3,3,52,4,4,4,68,241,241,241,241,241,241,241,241,241,241,241]),
 .lay (aI .u8 [128,191,160,191,128,159,144,191,128,143,0,0,0,0,0,0,0,0,0,0,0,0,0,0,0,0,0,0,0,0,0,0]),
 .dead,
 .lay (aI .u16 [9,13,1,32,133,101,160,5760,5600,8192,8202,1,8232,8233,1,8239,8287,48,12288,12288,1]),
 .lay [.sl 12 0 7 3 0 false,.zZ,.int .i64 (2)]]
def hgA:zb:=ziM (.lay [.iv (-9223372036854775808) 1])
def hgB:zb:=ziM (.lay [.iv 2 9223372036854775807])
theorem lays:ku Tryz.prog 9 Rows.sessionLongRow.laid (Arr.of (List.replicate Tryz.prog.globals.size .dead))=some (ziM .dead):=by kernel_rfl
def tab:List (FuncId×XK):=[(44,.zfj),(48,.same),(49,.makeNoZero 29 5),(100,.index 1),(146,.indexByte),(308,.zix .u32),(338,.zkP .u32),(339,.zkO .u64),(352,.indexByte),(358,.zg8),(359,.zkP .i32),(360,.zg8),(361,.marked),(363,.marked),(364,.zkO .i32),(373,.count),(374,.index 1)]
theorem hmo:Tryz.prog.follows .mixedOrders=true:=by kernel_rfl
theorem hng:zff Tryz.prog:=by
 have h:(Tryz.prog.funcs.toList.all fun fn=>!(fn.name == "runtime.NumGoroutine"))=true:=by kernel_rfl
 intro f fn hf
 rw[List.all_eq_true] at h
 have:=h fn (by rw[Array.mem_toList_iff];exact Array.mem_of_getElem? hf)
 simpa using this
theorem xfn:∀ f k,(f,k) ∈ tab->XFn Tryz.prog f k:=by
 intro f k h
 simp only[tab,List.mem_cons,Prod.mk.injEq,List.mem_nil_iff,or_false] at h
 rcases h with⟨rfl,rfl⟩|⟨rfl,rfl⟩|⟨rfl,rfl⟩|⟨rfl,rfl⟩|⟨rfl,rfl⟩|⟨rfl,rfl⟩|⟨rfl,rfl⟩|⟨rfl,rfl⟩|⟨rfl,rfl⟩|⟨rfl,rfl⟩|⟨rfl,rfl⟩|⟨rfl,rfl⟩|⟨rfl,rfl⟩|⟨rfl,rfl⟩|⟨rfl,rfl⟩|⟨rfl,rfl⟩|⟨rfl,rfl⟩
 ·exact⟨_,_,Tryz.func44,by kernel_rfl,by kernel_rfl,by kernel_rfl,by kernel_rfl,rfl⟩
 ·exact⟨_,_,Tryz.func48,by kernel_rfl,by kernel_rfl,by kernel_rfl,by kernel_rfl,rfl⟩
 ·exact⟨_,Extern.BytealgMakeNoZero.makeNoZero #[3] #[29],Tryz.func49,by kernel_rfl,by kernel_rfl,by kernel_rfl,by kernel_rfl,⟨#[3],rfl⟩,by kernel_rfl⟩
 ·exact⟨_,_,Tryz.func100,by kernel_rfl,by kernel_rfl,by kernel_rfl,by kernel_rfl,rfl,by kernel_rfl⟩
 ·exact⟨_,_,Tryz.func146,by kernel_rfl,by kernel_rfl,by kernel_rfl,by kernel_rfl,rfl⟩
 ·exact⟨_,_,Tryz.func308,by kernel_rfl,by kernel_rfl,by kernel_rfl,by kernel_rfl,rfl⟩
 ·exact⟨_,_,Tryz.func338,by kernel_rfl,by kernel_rfl,by kernel_rfl,by kernel_rfl,rfl⟩
 ·exact⟨_,_,Tryz.func339,by kernel_rfl,by kernel_rfl,by kernel_rfl,by kernel_rfl,rfl⟩
 ·exact⟨_,_,Tryz.func352,by kernel_rfl,by kernel_rfl,by kernel_rfl,by kernel_rfl,rfl⟩
 ·exact⟨_,_,Tryz.func358,by kernel_rfl,by kernel_rfl,by kernel_rfl,by kernel_rfl,.disable,rfl⟩
 ·exact⟨_,_,Tryz.func359,by kernel_rfl,by kernel_rfl,by kernel_rfl,by kernel_rfl,rfl⟩
 ·exact⟨_,_,Tryz.func360,by kernel_rfl,by kernel_rfl,by kernel_rfl,by kernel_rfl,.enable,rfl⟩
 ·exact⟨_,_,Tryz.func361,by kernel_rfl,by kernel_rfl,by kernel_rfl,by kernel_rfl,.acquire,rfl⟩
 ·exact⟨_,_,Tryz.func363,by kernel_rfl,by kernel_rfl,by kernel_rfl,by kernel_rfl,.releaseMerge,rfl⟩
 ·exact⟨_,_,Tryz.func364,by kernel_rfl,by kernel_rfl,by kernel_rfl,by kernel_rfl,rfl⟩
 ·exact⟨_,_,Tryz.func373,by kernel_rfl,by kernel_rfl,by kernel_rfl,by kernel_rfl,rfl⟩
 ·exact⟨_,_,Tryz.func374,by kernel_rfl,by kernel_rfl,by kernel_rfl,by kernel_rfl,rfl,by kernel_rfl⟩
end Go.Proofs.YtifkhebojenhnabGreatDoor
