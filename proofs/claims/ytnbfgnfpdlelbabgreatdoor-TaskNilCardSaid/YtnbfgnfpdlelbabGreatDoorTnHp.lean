/- The package variables as the machine sees them. -/
import Derived.Test.YtnbfgnfpdlelbabGreatDoorRows
import Derived.Test.YtnbfgnfpdlelbabGreatDoorB5
import Derived.KernelRfl
set_option maxRecDepth 100000
namespace Go.Proofs.YtnbfgnfpdlelbabGreatDoor
open Go Go.Gx Go.Mx Go.Sx
def aI (k : IntKind) (l : List Int) : List AV := l.map (AV.int k)
def zfe : List AV := [.int .i64 (3 : Int), .int .i64 (5 : Int), .int .u32 (1 : Int)]
def zgw : AV := .ptr 31 0 0 5
def zgn : List Blk := [.row [.sl 17 0 3 1 2 false] 0 0 0 false (some 85),
 .map [],
 .row [.int .i32 (0), .int .u32 (0), .map 14] 0 0 0 false (some 94),
 .row [.ptr 15 0 0 3] 0 0 0 false (some 86),
 .row [.ptr 15 0 0 3, .ptr 19 0 0 3, .ptr 22 0 0 3] 2 0 0 false (some 86),
 .map [],
 .row [.int .i32 (0), .int .u32 (0), .map 18] 0 0 0 false (some 94),
 .row [.ptr 19 0 0 3] 0 0 0 false (some 86),
 .map [],
 .row [.int .i32 (0), .int .u32 (0), .map 21] 0 0 0 false (some 94),
 .row [.ptr 22 0 0 3] 0 0 0 false (some 86),
 .row [.int .u32 (1), .int .u64 (0), .int .u32 (1), .int .u32 (0), .int .u32 (0), .int .i32 (0), .int .u32 (0)] 0 0 0 false (some 106),
 .row [.zH] 0 0 0 false (some 108),
 .row [.zH] 0 0 0 false (some 108),
 .gone,
 .gone,
 .row [.zH] 0 0 0 false (some 115),
 .map [],
 .row [.ptr 13 0 0 1, .ptr 24 0 0 7, .ptr 29 0 0 1, .int .i64 (5), .map 30] 0 0 0 false (some 50)]
def glA : GL := [none,
 none,
 none,
 none,
 none,
 none,
 none,
 none,
 none,
 none,
 none]
def zhq (b : Blk) : za := Arr.of [  b,
 .lay (aI .u8 [0, 0, 0, 0, 0, 0, 0, 0, 0, 1, 1, 1, 1, 1, 0, 0, 0, 0, 0, 0, 0, 0, 0, 0, 0, 0, 0, 0, 0, 0, 0, 0, 1, 0, 0, 0, 0, 0, 0, 0, 0, 0, 0, 0, 0, 0, 0, 0, 0, 0, 0, 0, 0, 0, 0, 0, 0, 0, 0, 0, 0, 0, 0, 0, 0, 0, 0, 0, 0, 0, 0, 0, 0, 0, 0, 0, 0, 0, 0, 0, 0, 0, 0, 0, 0, 0, 0, 0, 0, 0, 0, 0, 0, 0, 0, 0, 0, 0, 0, 0, 0, 0, 0, 0, 0, 0, 0, 0, 0, 0, 0, 0, 0, 0, 0, 0, 0, 0, 0, 0, 0, 0, 0, 0, 0, 0, 0, 0, 0, 0, 0, 0, 0, 0, 0, 0, 0, 0, 0, 0, 0, 0, 0, 0, 0, 0, 0, 0, 0, 0, 0, 0, 0, 0, 0, 0, 0, 0, 0, 0, 0, 0, 0, 0, 0, 0, 0, 0, 0, 0, 0, 0, 0, 0, 0, 0, 0, 0, 0, 0, 0, 0, 0, 0, 0, 0, 0, 0, 0, 0, 0, 0, 0, 0, 0, 0, 0, 0, 0, 0, 0, 0, 0, 0, 0, 0, 0, 0, 0, 0, 0, 0, 0, 0, 0, 0, 0, 0, 0, 0, 0, 0, 0, 0, 0, 0, 0, 0, 0, 0, 0, 0, 0, 0, 0, 0, 0, 0, 0, 0, 0, 0, 0, 0, 0, 0, 0, 0, 0, 0, 0, 0, 0, 0, 0, 0]),
 .lay [.ptr 12 0 0 3],
 .lay [.opq],
 .lay [.opq],
 .lay (aI .u64 [1, 10, 100, 1000, 10000, 100000, 1000000, 10000000, 100000000, 1000000000, 10000000000, 100000000000, 1000000000000, 10000000000000, 100000000000000, 1000000000000000, 10000000000000000, 100000000000000000, 1000000000000000000, 10000000000000000000]),
 .lay (aI .u8 [0, 1, 28, 2, 29, 14, 24, 3, 30, 22, 20, 15, 25, 17, 4, 8, 31, 27, 13, 23, 21, 19, 16, 7, 26, 12, 18, 6, 11, 5, 10, 9]),
 .lay (aI .u8 [0, 1, 56, 2, 57, 49, 28, 3, 61, 58, 42, 50, 38, 29, 17, 4, 62, 47, 59, 36, 45, 43, 51, 22, 53, 39, 33, 30, 24, 18, 12, 5, 63, 55, 48, 27, 60, 41, 37, 16, 46, 35, 44, 21, 52, 32, 23, 11, 54, 26, 40, 15, 34, 20, 31, 10, 25, 14, 19, 9, 13, 8, 7, 6]),
 .lay (aI .u8 [240, 240, 240, 240, 240, 240, 240, 240, 240, 240, 240, 240, 240, 240, 240, 240, 240, 240, 240, 240, 240, 240, 240, 240, 240, 240, 240, 240, 240, 240, 240, 240, 240, 240, 240, 240, 240, 240, 240, 240, 240, 240, 240, 240, 240, 240, 240, 240, 240, 240, 240, 240, 240, 240, 240, 240, 240, 240, 240, 240, 240, 240, 240, 240, 240, 240, 240, 240, 240, 240, 240, 240, 240, 240, 240, 240, 240, 240, 240, 240, 240, 240, 240, 240, 240, 240, 240, 240, 240, 240, 240, 240, 240, 240, 240, 240, 240, 240, 240, 240, 240, 240, 240, 240, 240, 240, 240, 240, 240, 240, 240, 240, 240, 240, 240, 240, 240, 240, 240, 240, 240, 240, 240, 240, 240, 240, 240, 240, 241, 241, 241, 241, 241, 241, 241, 241, 241, 241, 241, 241, 241, 241, 241, 241, 241, 241, 241, 241, 241, 241, 241, 241, 241, 241, 241, 241, 241, 241, 241, 241, 241, 241, 241, 241, 241, 241, 241, 241, 241, 241, 241, 241, 241, 241, 241, 241, 241, 241, 241, 241, 241, 241, 241, 241, 241, 241, 241, 241, 241, 241, 241, 241, 241, 241, 2, 2, 2, 2, 2, 2, 2, 2, 2, 2, 2, 2, 2, 2, 2, 2, 2, 2, 2, 2, 2, 2, 2, 2, 2, 2, 2, 2, 2, 2, 19, 3, 3, 3, 3, 3, 3, 3, 3, 3, 3, 3, 3, 35, 3, 3, 52, 4, 4, 4, 68, 241, 241, 241, 241, 241, 241, 241, 241, 241, 241, 241]),
 .lay (aI .u8 [128, 191, 160, 191, 128, 159, 144, 191, 128, 143, 0, 0, 0, 0, 0, 0, 0, 0, 0, 0, 0, 0, 0, 0, 0, 0, 0, 0, 0, 0, 0, 0]),
 .dead,
 .lay (aI .u16 [9, 13, 1, 32, 133, 101, 160, 5760, 5600, 8192, 8202, 1, 8232, 8233, 1, 8239, 8287, 48, 12288, 12288, 1]),
 .lay [.sl 11 0 7 3 0 false, .zH, .int .i64 (2)]]
def hgA : za := zhq (.lay [.iv (-9223372036854775808) 1])
def hgB : za := zhq (.lay [.iv 2 9223372036854775807])
theorem lays : kC Tryz.prog 9 Rows.taskNilRow.laid (Arr.of (List.replicate Tryz.prog.globals.size .dead)) = some (zhq .dead) := by kernel_rfl
def tab : List (FuncId × XK) := [(50, .zfX), (130, .ziH .i64), (147, .index 0), (165, .indexByte), (359, .zhZ .u32), (392, .zi7 .u32), (393, .ziH .u64), (405, .same), (406, .makeNoZero 33 5), (407, .indexByte), (419, .zgG), (420, .zi7 .i32), (421, .zgG), (422, .marked), (424, .marked), (425, .ziH .i32), (429, .count), (430, .index 0)]
theorem hmo : Tryz.prog.follows .mixedOrders = true := by kernel_rfl
theorem hng : zdK Tryz.prog := by
 have h : (Tryz.prog.funcs.toList.all fun fn => !(fn.name == "runtime.NumGoroutine")) = true := by kernel_rfl
 intro f fn hf
 rw [List.all_eq_true] at h
 have := h fn (by rw [Array.mem_toList_iff]; exact Array.mem_of_getElem? hf)
 simpa using this
theorem xfn : ∀ f k, (f, k) ∈ tab -> XFn Tryz.prog f k := by
 intro f k h
 simp only [tab, List.mem_cons, Prod.mk.injEq, List.mem_nil_iff, or_false] at h
 rcases h with ⟨rfl, rfl⟩ | ⟨rfl, rfl⟩ | ⟨rfl, rfl⟩ | ⟨rfl, rfl⟩ | ⟨rfl, rfl⟩ | ⟨rfl, rfl⟩ | ⟨rfl, rfl⟩ | ⟨rfl, rfl⟩ | ⟨rfl, rfl⟩ | ⟨rfl, rfl⟩ | ⟨rfl, rfl⟩ | ⟨rfl, rfl⟩ | ⟨rfl, rfl⟩ | ⟨rfl, rfl⟩ | ⟨rfl, rfl⟩ | ⟨rfl, rfl⟩ | ⟨rfl, rfl⟩ | ⟨rfl, rfl⟩
 ·exact ⟨_, _, Tryz.func50, by kernel_rfl, by kernel_rfl, by kernel_rfl, by kernel_rfl, rfl⟩
 ·exact ⟨_, _, Tryz.func130, by kernel_rfl, by kernel_rfl, by kernel_rfl, by kernel_rfl, rfl⟩
 ·exact ⟨_, _, Tryz.func147, by kernel_rfl, by kernel_rfl, by kernel_rfl, by kernel_rfl, rfl, by kernel_rfl⟩
 ·exact ⟨_, _, Tryz.func165, by kernel_rfl, by kernel_rfl, by kernel_rfl, by kernel_rfl, rfl⟩
 ·exact ⟨_, _, Tryz.func359, by kernel_rfl, by kernel_rfl, by kernel_rfl, by kernel_rfl, rfl⟩
 ·exact ⟨_, _, Tryz.func392, by kernel_rfl, by kernel_rfl, by kernel_rfl, by kernel_rfl, rfl⟩
 ·exact ⟨_, _, Tryz.func393, by kernel_rfl, by kernel_rfl, by kernel_rfl, by kernel_rfl, rfl⟩
 ·exact ⟨_, _, Tryz.func405, by kernel_rfl, by kernel_rfl, by kernel_rfl, by kernel_rfl, rfl⟩
 ·exact ⟨_, Extern.BytealgMakeNoZero.makeNoZero #[3] #[33], Tryz.func406, by kernel_rfl, by kernel_rfl, by kernel_rfl, by kernel_rfl, ⟨#[3], rfl⟩, by kernel_rfl⟩
 ·exact ⟨_, _, Tryz.func407, by kernel_rfl, by kernel_rfl, by kernel_rfl, by kernel_rfl, rfl⟩
 ·exact ⟨_, _, Tryz.func419, by kernel_rfl, by kernel_rfl, by kernel_rfl, by kernel_rfl, .disable, rfl⟩
 ·exact ⟨_, _, Tryz.func420, by kernel_rfl, by kernel_rfl, by kernel_rfl, by kernel_rfl, rfl⟩
 ·exact ⟨_, _, Tryz.func421, by kernel_rfl, by kernel_rfl, by kernel_rfl, by kernel_rfl, .enable, rfl⟩
 ·exact ⟨_, _, Tryz.func422, by kernel_rfl, by kernel_rfl, by kernel_rfl, by kernel_rfl, .acquire, rfl⟩
 ·exact ⟨_, _, Tryz.func424, by kernel_rfl, by kernel_rfl, by kernel_rfl, by kernel_rfl, .releaseMerge, rfl⟩
 ·exact ⟨_, _, Tryz.func425, by kernel_rfl, by kernel_rfl, by kernel_rfl, by kernel_rfl, rfl⟩
 ·exact ⟨_, _, Tryz.func429, by kernel_rfl, by kernel_rfl, by kernel_rfl, by kernel_rfl, rfl⟩
 ·exact ⟨_, _, Tryz.func430, by kernel_rfl, by kernel_rfl, by kernel_rfl, by kernel_rfl, rfl, by kernel_rfl⟩
end Go.Proofs.YtnbfgnfpdlelbabGreatDoor
