/- The package variables as the machine sees them. -/
import Derived.Test.YtjcpakmcbjjkhaaGreatDoorRows
import Derived.Test.YtjcpakmcbjjkhaaGreatDoorB5
import Derived.KernelRfl
set_option maxRecDepth 100000
namespace Go.Proofs.YtjcpakmcbjjkhaaGreatDoor
open Go Go.Gx Go.Mx Go.Sx
def aI (k : IntKind) (l : List Int) : List AV := l.map (AV.int k)
def gB (l : List UInt8) : List SV := l.map SV.u8
def gI (k : IntKind) (l : List Int) : List SV := l.map fun n => .a (.int k n)
def glA : GL := [none,
 some (gB [0, 0, 0, 0, 0, 0, 0, 0, 0, 1, 1, 1, 1, 1, 0, 0, 0, 0, 0, 0, 0, 0, 0, 0, 0, 0, 0, 0, 0, 0, 0, 0, 1, 0, 0, 0, 0, 0, 0, 0, 0, 0, 0, 0, 0, 0, 0, 0, 0, 0, 0, 0, 0, 0, 0, 0, 0, 0, 0, 0, 0, 0, 0, 0, 0, 0, 0, 0, 0, 0, 0, 0, 0, 0, 0, 0, 0, 0, 0, 0, 0, 0, 0, 0, 0, 0, 0, 0, 0, 0, 0, 0, 0, 0, 0, 0, 0, 0, 0, 0, 0, 0, 0, 0, 0, 0, 0, 0, 0, 0, 0, 0, 0, 0, 0, 0, 0, 0, 0, 0, 0, 0, 0, 0, 0, 0, 0, 0, 0, 0, 0, 0, 0, 0, 0, 0, 0, 0, 0, 0, 0, 0, 0, 0, 0, 0, 0, 0, 0, 0, 0, 0, 0, 0, 0, 0, 0, 0, 0, 0, 0, 0, 0, 0, 0, 0, 0, 0, 0, 0, 0, 0, 0, 0, 0, 0, 0, 0, 0, 0, 0, 0, 0, 0, 0, 0, 0, 0, 0, 0, 0, 0, 0, 0, 0, 0, 0, 0, 0, 0, 0, 0, 0, 0, 0, 0, 0, 0, 0, 0, 0, 0, 0, 0, 0, 0, 0, 0, 0, 0, 0, 0, 0, 0, 0, 0, 0, 0, 0, 0, 0, 0, 0, 0, 0, 0, 0, 0, 0, 0, 0, 0, 0, 0, 0, 0, 0, 0, 0, 0, 0, 0, 0, 0, 0, 0]),
 none,
 none,
 none,
 none,
 some (gI .u64 [1, 10, 100, 1000, 10000, 100000, 1000000, 10000000, 100000000, 1000000000, 10000000000, 100000000000, 1000000000000, 10000000000000, 100000000000000, 1000000000000000, 10000000000000000, 100000000000000000, 1000000000000000000, 10000000000000000000]),
 none,
 none,
 some (gB [0, 1, 28, 2, 29, 14, 24, 3, 30, 22, 20, 15, 25, 17, 4, 8, 31, 27, 13, 23, 21, 19, 16, 7, 26, 12, 18, 6, 11, 5, 10, 9]),
 some (gB [0, 1, 56, 2, 57, 49, 28, 3, 61, 58, 42, 50, 38, 29, 17, 4, 62, 47, 59, 36, 45, 43, 51, 22, 53, 39, 33, 30, 24, 18, 12, 5, 63, 55, 48, 27, 60, 41, 37, 16, 46, 35, 44, 21, 52, 32, 23, 11, 54, 26, 40, 15, 34, 20, 31, 10, 25, 14, 19, 9, 13, 8, 7, 6]),
 none]
def zpE (b : Blk) : zj := Arr.of [.lay [.opq],
 .lay (aI .u8 [0, 0, 0, 0, 0, 0, 0, 0, 0, 1, 1, 1, 1, 1, 0, 0, 0, 0, 0, 0, 0, 0, 0, 0, 0, 0, 0, 0, 0, 0, 0, 0, 1, 0, 0, 0, 0, 0, 0, 0, 0, 0, 0, 0, 0, 0, 0, 0, 0, 0, 0, 0, 0, 0, 0, 0, 0, 0, 0, 0, 0, 0, 0, 0, 0, 0, 0, 0, 0, 0, 0, 0, 0, 0, 0, 0, 0, 0, 0, 0, 0, 0, 0, 0, 0, 0, 0, 0, 0, 0, 0, 0, 0, 0, 0, 0, 0, 0, 0, 0, 0, 0, 0, 0, 0, 0, 0, 0, 0, 0, 0, 0, 0, 0, 0, 0, 0, 0, 0, 0, 0, 0, 0, 0, 0, 0, 0, 0, 0, 0, 0, 0, 0, 0, 0, 0, 0, 0, 0, 0, 0, 0, 0, 0, 0, 0, 0, 0, 0, 0, 0, 0, 0, 0, 0, 0, 0, 0, 0, 0, 0, 0, 0, 0, 0, 0, 0, 0, 0, 0, 0, 0, 0, 0, 0, 0, 0, 0, 0, 0, 0, 0, 0, 0, 0, 0, 0, 0, 0, 0, 0, 0, 0, 0, 0, 0, 0, 0, 0, 0, 0, 0, 0, 0, 0, 0, 0, 0, 0, 0, 0, 0, 0, 0, 0, 0, 0, 0, 0, 0, 0, 0, 0, 0, 0, 0, 0, 0, 0, 0, 0, 0, 0, 0, 0, 0, 0, 0, 0, 0, 0, 0, 0, 0, 0, 0, 0, 0, 0, 0, 0, 0, 0, 0, 0, 0]),
 b,
 .lay [.ptr 13 0 0 3],
 .lay [.opq],
 .lay [.opq],
 .lay (aI .u64 [1, 10, 100, 1000, 10000, 100000, 1000000, 10000000, 100000000, 1000000000, 10000000000, 100000000000, 1000000000000, 10000000000000, 100000000000000, 1000000000000000, 10000000000000000, 100000000000000000, 1000000000000000000, 10000000000000000000]),
 .lay (aI .u8 [240, 240, 240, 240, 240, 240, 240, 240, 240, 240, 240, 240, 240, 240, 240, 240, 240, 240, 240, 240, 240, 240, 240, 240, 240, 240, 240, 240, 240, 240, 240, 240, 240, 240, 240, 240, 240, 240, 240, 240, 240, 240, 240, 240, 240, 240, 240, 240, 240, 240, 240, 240, 240, 240, 240, 240, 240, 240, 240, 240, 240, 240, 240, 240, 240, 240, 240, 240, 240, 240, 240, 240, 240, 240, 240, 240, 240, 240, 240, 240, 240, 240, 240, 240, 240, 240, 240, 240, 240, 240, 240, 240, 240, 240, 240, 240, 240, 240, 240, 240, 240, 240, 240, 240, 240, 240, 240, 240, 240, 240, 240, 240, 240, 240, 240, 240, 240, 240, 240, 240, 240, 240, 240, 240, 240, 240, 240, 240, 241, 241, 241, 241, 241, 241, 241, 241, 241, 241, 241, 241, 241, 241, 241, 241, 241, 241, 241, 241, 241, 241, 241, 241, 241, 241, 241, 241, 241, 241, 241, 241, 241, 241, 241, 241, 241, 241, 241, 241, 241, 241, 241, 241, 241, 241, 241, 241, 241, 241, 241, 241, 241, 241, 241, 241, 241, 241, 241, 241, 241, 241, 241, 241, 241, 241, 2, 2, 2, 2, 2, 2, 2, 2, 2, 2, 2, 2, 2, 2, 2, 2, 2, 2, 2, 2, 2, 2, 2, 2, 2, 2, 2, 2, 2, 2, 19, 3, 3, 3, 3, 3, 3, 3, 3, 3, 3, 3, 3, 35, 3, 3, 52, 4, 4, 4, 68, 241, 241, 241, 241, 241, 241, 241, 241, 241, 241, 241]),
 .lay (aI .u8 [128, 191, 160, 191, 128, 159, 144, 191, 128, 143, 0, 0, 0, 0, 0, 0, 0, 0, 0, 0, 0, 0, 0, 0, 0, 0, 0, 0, 0, 0, 0, 0]),
 .lay (aI .u8 [0, 1, 28, 2, 29, 14, 24, 3, 30, 22, 20, 15, 25, 17, 4, 8, 31, 27, 13, 23, 21, 19, 16, 7, 26, 12, 18, 6, 11, 5, 10, 9]),
 .lay (aI .u8 [0, 1, 56, 2, 57, 49, 28, 3, 61, 58, 42, 50, 38, 29, 17, 4, 62, 47, 59, 36, 45, 43, 51, 22, 53, 39, 33, 30, 24, 18, 12, 5, 63, 55, 48, 27, 60, 41, 37, 16, 46, 35, 44, 21, 52, 32, 23, 11, 54, 26, 40, 15, 34, 20, 31, 10, 25, 14, 19, 9, 13, 8, 7, 6]),
 .dead,
 .lay (aI .u16 [9, 13, 1, 32, 133, 101, 160, 5760, 5600, 8192, 8202, 1, 8232, 8233, 1, 8239, 8287, 48, 12288, 12288, 1]),
 .lay [.sl 12 0 7 3 0 false, .qn, .int .i64 (2)]]
def hgA : zj := zpE (.lay [.iv (-9223372036854775808) 1])
def hgB : zj := zpE (.lay [.iv 2 9223372036854775807])
theorem lays : zdH Tryz.prog 9 Rows.sessionReadsRow.laid (Arr.of (List.replicate Tryz.prog.globals.size .dead)) = some (zpE .dead) := by kernel_rfl
def tab : List (FuncId × XK) := [(61, .indexByte), (74, .znJ), (168, .index 2), (290, .indexByte), (328, .same), (329, .makeNoZero 22 5), (332, .count), (333, .index 2), (347, .zqF .u32), (373, .zsg .u32), (374, .zsl .u64), (388, .zox), (389, .zsg .i32), (390, .zox), (391, .marked), (393, .marked), (394, .zsl .i32)]
theorem hmo : Tryz.prog.follows .mixedOrders = true := by kernel_rfl
theorem hng : zlF Tryz.prog := by
 have h : (Tryz.prog.funcs.toList.all fun fn => !(fn.name == "runtime.NumGoroutine")) = true := by kernel_rfl
 intro f fn hf
 rw [List.all_eq_true] at h
 have := h fn (by rw [Array.mem_toList_iff]; exact Array.mem_of_getElem? hf)
 simpa using this
theorem xfn : ∀ f k, (f, k) ∈ tab -> XFn Tryz.prog f k := by
 intro f k h
 simp only [tab, List.mem_cons, Prod.mk.injEq, List.mem_nil_iff, or_false] at h
 rcases h with ⟨rfl, rfl⟩ | ⟨rfl, rfl⟩ | ⟨rfl, rfl⟩ | ⟨rfl, rfl⟩ | ⟨rfl, rfl⟩ | ⟨rfl, rfl⟩ | ⟨rfl, rfl⟩ | ⟨rfl, rfl⟩ | ⟨rfl, rfl⟩ | ⟨rfl, rfl⟩ | ⟨rfl, rfl⟩ | ⟨rfl, rfl⟩ | ⟨rfl, rfl⟩ | ⟨rfl, rfl⟩ | ⟨rfl, rfl⟩ | ⟨rfl, rfl⟩ | ⟨rfl, rfl⟩
 ·exact ⟨_, _, Tryz.func61, by kernel_rfl, by kernel_rfl, by kernel_rfl, by kernel_rfl, rfl⟩
 ·exact ⟨_, _, Tryz.func74, by kernel_rfl, by kernel_rfl, by kernel_rfl, by kernel_rfl, rfl⟩
 ·exact ⟨_, _, Tryz.func168, by kernel_rfl, by kernel_rfl, by kernel_rfl, by kernel_rfl, rfl, by kernel_rfl⟩
 ·exact ⟨_, _, Tryz.func290, by kernel_rfl, by kernel_rfl, by kernel_rfl, by kernel_rfl, rfl⟩
 ·exact ⟨_, _, Tryz.func328, by kernel_rfl, by kernel_rfl, by kernel_rfl, by kernel_rfl, rfl⟩
 ·exact ⟨_, Extern.BytealgMakeNoZero.makeNoZero #[3] #[22], Tryz.func329, by kernel_rfl, by kernel_rfl, by kernel_rfl, by kernel_rfl, ⟨#[3], rfl⟩, by kernel_rfl⟩
 ·exact ⟨_, _, Tryz.func332, by kernel_rfl, by kernel_rfl, by kernel_rfl, by kernel_rfl, rfl⟩
 ·exact ⟨_, _, Tryz.func333, by kernel_rfl, by kernel_rfl, by kernel_rfl, by kernel_rfl, rfl, by kernel_rfl⟩
 ·exact ⟨_, _, Tryz.func347, by kernel_rfl, by kernel_rfl, by kernel_rfl, by kernel_rfl, rfl⟩
 ·exact ⟨_, _, Tryz.func373, by kernel_rfl, by kernel_rfl, by kernel_rfl, by kernel_rfl, rfl⟩
 ·exact ⟨_, _, Tryz.func374, by kernel_rfl, by kernel_rfl, by kernel_rfl, by kernel_rfl, rfl⟩
 ·exact ⟨_, _, Tryz.func388, by kernel_rfl, by kernel_rfl, by kernel_rfl, by kernel_rfl, .disable, rfl⟩
 ·exact ⟨_, _, Tryz.func389, by kernel_rfl, by kernel_rfl, by kernel_rfl, by kernel_rfl, rfl⟩
 ·exact ⟨_, _, Tryz.func390, by kernel_rfl, by kernel_rfl, by kernel_rfl, by kernel_rfl, .enable, rfl⟩
 ·exact ⟨_, _, Tryz.func391, by kernel_rfl, by kernel_rfl, by kernel_rfl, by kernel_rfl, .acquire, rfl⟩
 ·exact ⟨_, _, Tryz.func393, by kernel_rfl, by kernel_rfl, by kernel_rfl, by kernel_rfl, .releaseMerge, rfl⟩
 ·exact ⟨_, _, Tryz.func394, by kernel_rfl, by kernel_rfl, by kernel_rfl, by kernel_rfl, rfl⟩
end Go.Proofs.YtjcpakmcbjjkhaaGreatDoor
