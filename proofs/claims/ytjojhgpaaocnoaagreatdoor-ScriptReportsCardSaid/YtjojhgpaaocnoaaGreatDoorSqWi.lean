/- A world in which the listed variables hold what the text lays. -/
import Derived.Test.YtjojhgpaaocnoaaGreatDoorRows
import Derived.Test.YtjojhgpaaocnoaaGreatDoorB5
import Derived.Deep.DeepWitnessRowRef
import Derived.ProofKit
import Derived.Lib.LaidIn
set_option maxRecDepth 100000
namespace Go.Proofs.YtjojhgpaaocnoaaGreatDoor
open Go Go.Gx Go.Mx
def vI(k:IntKind)(l:List Int):Array Value:=(l.map (Value.int k)).toArray
noncomputable def qd(os:Os):World:=
 let N:=(World.settled Tryz.prog os).heap.size
 let w0:=World.holding Tryz.prog os ⟨#[.cells (vI .u16 [9,13,1,32,133,101,160,5760,5600,8192,8202,1,8232,8233,1,8239,8287,48,12288,12288,1]) 499,
  .cells #[.slice (some ⟨N+0,0,none⟩) 7 7,.slice none 0 0,.int .i64 2] 497,
  .cells #[.string ⟨([105,110,118,97,108,105,100,32,115,121,110,116,97,120]:List UInt8).toArray⟩] 389,
  .cells #[.string ⟨([118,97,108,117,101,32,111,117,116,32,111,102,32,114,97,110,103,101]:List UInt8).toArray⟩] 389],#[],[]⟩
 let put (h:Array Obj) (g:Nat) (cs:Array Value):Array Obj:=h.modify g fun
  |.cells _ t frozen=>.cells cs t frozen
  |o=>o
 let h1:=put (w0.heap) 1 (vI .u64 [1,10,100,1000,10000,100000,1000000,10000000,100000000,1000000000,10000000000,100000000000,1000000000000,10000000000000,100000000000000,1000000000000000,10000000000000000,100000000000000000,1000000000000000000,10000000000000000000])
 let h2:=put (h1) 2 (vI .u8 [240,240,240,240,240,240,240,240,240,240,240,240,240,240,240,240,240,240,240,240,240,240,240,240,240,240,240,240,240,240,240,240,240,240,240,240,240,240,240,240,240,240,240,240,240,240,240,240,240,240,240,240,240,240,240,240,240,240,240,240,240,240,240,240,240,240,240,240,240,240,240,240,240,240,240,240,240,240,240,240,240,240,240,240,240,240,240,240,240,240,240,240,240,240,240,240,240,240,240,240,240,240,240,240,240,240,240,240,240,240,240,240,240,240,240,240,240,240,240,240,240,240,240,240,240,240,240,240,241,241,241,241,241,241,241,241,241,241,241,241,241,241,241,241,241,241,241,241,241,241,241,241,241,241,241,241,241,241,241,241,241,241,241,241,241,241,241,241,241,241,241,241,241,241,241,241,241,241,241,241,241,241,241,241,241,241,241,241,241,241,241,241,241,241,2,2,2,2,2,2,2,2,2,2,2,2,2,2,2,2,2,2,2,2,2,2,2,2,2,2,2,2,2,2,19,3,3,3,3,3,3,3,3,3,3,3,3,35,3,3,52,4,4,4,68,241,241,241,241,241,241,241,241,241,241,241])
 let h3:=put (h2) 3 (vI .u8 [128,191,160,191,128,159,144,191,128,143,0,0,0,0,0,0,0,0,0,0,0,0,0,0,0,0,0,0,0,0,0,0])
 let h4:=put (h3) 4 (vI .u8 [0,1,28,2,29,14,24,3,30,22,20,15,25,17,4,8,31,27,13,23,21,19,16,7,26,12,18,6,11,5,10,9])
 let h5:=put (h4) 5 (vI .u8 [0,1,56,2,57,49,28,3,61,58,42,50,38,29,17,4,62,47,59,36,45,43,51,22,53,39,33,30,24,18,12,5,63,55,48,27,60,41,37,16,46,35,44,21,52,32,23,11,54,26,40,15,34,20,31,10,25,14,19,9,13,8,7,6])
 let h6:=put (h5) 6 #[.iface 387 (.pointer (some ⟨N+2,0,none⟩))]
 let h7:=put (h6) 7 #[.iface 387 (.pointer (some ⟨N+3,0,none⟩))]
 let h8:=put (h7) 8 (vI .u8 [0,0,0,0,0,0,0,0,0,1,1,1,1,1,0,0,0,0,0,0,0,0,0,0,0,0,0,0,0,0,0,0,1,0,0,0,0,0,0,0,0,0,0,0,0,0,0,0,0,0,0,0,0,0,0,0,0,0,0,0,0,0,0,0,0,0,0,0,0,0,0,0,0,0,0,0,0,0,0,0,0,0,0,0,0,0,0,0,0,0,0,0,0,0,0,0,0,0,0,0,0,0,0,0,0,0,0,0,0,0,0,0,0,0,0,0,0,0,0,0,0,0,0,0,0,0,0,0,0,0,0,0,0,0,0,0,0,0,0,0,0,0,0,0,0,0,0,0,0,0,0,0,0,0,0,0,0,0,0,0,0,0,0,0,0,0,0,0,0,0,0,0,0,0,0,0,0,0,0,0,0,0,0,0,0,0,0,0,0,0,0,0,0,0,0,0,0,0,0,0,0,0,0,0,0,0,0,0,0,0,0,0,0,0,0,0,0,0,0,0,0,0,0,0,0,0,0,0,0,0,0,0,0,0,0,0,0,0,0,0,0,0,0,0,0,0,0,0,0,0,0,0,0,0,0,0])
 let h9:=put (h8) 9 #[.pointer (some ⟨N+1,0,none⟩)]
 { w0 with heap:=h9 }
noncomputable abbrev N0:Nat:=(World.settled Tryz.prog default).heap.size
theorem zpx(os:Os)(args:Array Value):LaidIn Tryz.prog ((qd os).forCall (fun _ _=>0) ⟨#[],args,[]⟩).memory [("unicode/utf8.first",Rows.laid_unicode_utf8_first)] [2]:=
 LaidIn.of_run [2] 12 (by kernel_rfl) (by kernel_rfl) (by kernel_rfl) (by kernel_rfl)
theorem zpy(os:Os)(args:Array Value):LaidIn Tryz.prog ((qd os).forCall (fun _ _=>0) ⟨#[],args,[]⟩).memory [("unicode/utf8.acceptRanges",Rows.laid_unicode_utf8_acceptRanges)] [3]:=
 LaidIn.of_run [3] 12 (by kernel_rfl) (by kernel_rfl) (by kernel_rfl) (by kernel_rfl)
theorem zpz(os:Os)(args:Array Value):LaidIn Tryz.prog ((qd os).forCall (fun _ _=>0) ⟨#[],args,[]⟩).memory [("strconv.ErrSyntax",Rows.laid_strconv_ErrSyntax)] [6,N0+2]:=
 LaidIn.of_run [6,N0+2] 12 (by kernel_rfl) (by kernel_rfl) (by kernel_rfl) (by kernel_rfl)
theorem zpA(os:Os)(args:Array Value):LaidIn Tryz.prog ((qd os).forCall (fun _ _=>0) ⟨#[],args,[]⟩).memory [("strconv.ErrRange",Rows.laid_strconv_ErrRange)] [7,N0+3]:=
 LaidIn.of_run [7,N0+3] 12 (by kernel_rfl) (by kernel_rfl) (by kernel_rfl) (by kernel_rfl)
theorem zpB(os:Os)(args:Array Value):LaidIn Tryz.prog ((qd os).forCall (fun _ _=>0) ⟨#[],args,[]⟩).memory [("internal/strconv.uint64pow10",Rows.laid_internal_strconv_uint64pow10)] [1]:=
 LaidIn.of_run [1] 12 (by kernel_rfl) (by kernel_rfl) (by kernel_rfl) (by kernel_rfl)
theorem zpC(os:Os)(args:Array Value):LaidIn Tryz.prog ((qd os).forCall (fun _ _=>0) ⟨#[],args,[]⟩).memory [("math/bits.deBruijn32tab",Rows.laid_math_bits_deBruijn32tab)] [4]:=
 LaidIn.of_run [4] 12 (by kernel_rfl) (by kernel_rfl) (by kernel_rfl) (by kernel_rfl)
theorem zpD(os:Os)(args:Array Value):LaidIn Tryz.prog ((qd os).forCall (fun _ _=>0) ⟨#[],args,[]⟩).memory [("math/bits.deBruijn64tab",Rows.laid_math_bits_deBruijn64tab)] [5]:=
 LaidIn.of_run [5] 12 (by kernel_rfl) (by kernel_rfl) (by kernel_rfl) (by kernel_rfl)
theorem zpE(os:Os)(args:Array Value):LaidIn Tryz.prog ((qd os).forCall (fun _ _=>0) ⟨#[],args,[]⟩).memory [("strings.asciiSpace",Rows.laid_strings_asciiSpace)] [8]:=
 LaidIn.of_run [8] 12 (by kernel_rfl) (by kernel_rfl) (by kernel_rfl) (by kernel_rfl)
theorem zpF(os:Os)(args:Array Value):LaidIn Tryz.prog ((qd os).forCall (fun _ _=>0) ⟨#[],args,[]⟩).memory [("unicode.White_Space",Rows.laid_unicode_White_Space)] [9,N0+1,N0+0]:=
 LaidIn.of_run [9,N0+1,N0+0] 12 (by kernel_rfl) (by kernel_rfl) (by kernel_rfl) (by kernel_rfl)
theorem zlW(os:Os)(args:Array Value):laidMet Tryz.prog Rows.scriptReportsRow.laid ((qd os).forCall (fun _ _=>0) ⟨#[],args,[]⟩).memory:=
 (((((((((zpx os args).append (zpy os args) (by kernel_rfl)).append (zpz os args) (by kernel_rfl)).append (zpA os args) (by kernel_rfl)).append (zpB os args) (by kernel_rfl)).append (zpC os args) (by kernel_rfl)).append (zpD os args) (by kernel_rfl)).append (zpE os args) (by kernel_rfl)).append (zpF os args) (by kernel_rfl)).met
end Go.Proofs.YtjojhgpaaocnoaaGreatDoor
