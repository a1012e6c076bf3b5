/- The package variables as the machine sees them. -/
import Derived.Test.YtnbfgnfpdlelbaaGreatDoorRows
import Derived.Test.YtnbfgnfpdlelbaaGreatDoorB5
import Derived.KernelRfl
set_option maxRecDepth 100000
namespace Go.Proofs.YtnbfgnfpdlelbaaGreatDoor
open Go Go.Gx Go.Mx Go.Sx
def aI (k : IntKind) (l : List Int) : List AV := l.map (AV.int k)
def za0 : List AV := [.int .i64 (1 : Int), .int .i64 (1 : Int), .int .u32 (1 : Int)]
def zcD : AV := .ptr 26 0 0 5
def zcH : List Blk := [.row [.sl 18 0 1 1 0 false] 0 0 0 false (some 105),
 .map [],
 .row [.int .i32 (0), .int .u32 (0), .map 15] 0 0 0 false (some 115),
 .row [.ptr 16 0 0 3] 0 0 0 false (some 106),
 .row [.ptr 16 0 0 3] 0 0 0 false (some 106),
 .row [.int .u32 (1), .int .u64 (0), .int .u32 (1), .int .u32 (0), .int .u32 (0), .int .i32 (0), .int .u32 (0)] 0 0 0 false (some 129),
 .row [.zy] 0 0 0 false (some 131),
 .row [.zy] 0 0 0 false (some 131),
 .gone,
 .gone,
 .row [.zy] 0 0 0 false (some 138),
 .map [],
 .row [.ptr 14 0 0 1, .ptr 19 0 0 7, .ptr 24 0 0 1, .int .i64 (1), .map 25] 0 0 0 false (some 75)]
def zcj : List AV := []
def zd6 : AV := .sl 61 0 12 1 0 false
def zdT : List Blk := [.row [.int .i64 (6), .int .u32 (0), .str [], .int .i64 (0), .str [114, 101, 97, 100, 121], .int .i64 (0), .int .u8 (0), .int .u32 (0), .int .u32 (0), .zy] 0 0 0 false (some 32),
 .row [.int .i64 (6), .int .u32 (0), .str [], .int .i64 (0), .str [114, 101, 97, 100, 121], .int .i64 (0), .int .u8 (0), .int .u32 (0), .int .u32 (0), .zy] 0 0 0 false (some 32),
 .row [.int .i64 (6), .int .u32 (0), .str [], .int .i64 (0), .str [114, 101, 97, 100, 121], .int .i64 (0), .int .u8 (0), .int .u32 (0), .int .u32 (0), .zy] 0 0 0 false (some 32),
 .row [.int .i64 (6), .int .u32 (0), .str [], .int .i64 (0), .str [114, 101, 97, 100, 121], .int .i64 (0), .int .u8 (0), .int .u32 (0), .int .u32 (0), .zy] 0 0 0 false (some 32),
 .row [.fn 159 [] [.ptr 27 0 0 1], .fn 160 [] []] 0 0 0 false (some 164),
 .map [(.int .i64 (1), .agg [.fn 151 [] [.ptr 20 0 0 1], .fn 152 [] []]), (.int .i64 (2), .agg [.fn 151 [] [.ptr 22 0 0 1], .fn 152 [] []]), (.int .i64 (3), .agg [.fn 151 [] [.ptr 24 0 0 1], .fn 152 [] []]), (.int .i64 (4), .agg [.fn 153 [] [], .fn 156 [] []]), (.int .i64 (5), .agg [.fn 107 [] [], .fn 109 [] []]), (.int .i64 (6), .agg [.fn 159 [] [.ptr 27 0 0 1], .fn 160 [] []]), (.int .i64 (7), .agg [.fn 159 [] [.ptr 29 0 0 1], .fn 160 [] []]), (.int .i64 (8), .agg [.fn 159 [] [.ptr 31 0 0 1], .fn 160 [] []]), (.int .i64 (9), .agg [.fn 162 [] [], .fn 163 [] []]), (.int .i64 (10), .agg [.fn 159 [] [.ptr 34 0 0 1], .fn 160 [] []])],
 .row [.str [69, 88, 73, 83, 84, 83]] 0 0 0 false (some 9),
 .row [.fn 151 [] [.ptr 20 0 0 1], .fn 152 [] []] 0 0 0 false (some 164),
 .row [.str [82, 69, 67, 69, 78, 84]] 0 0 0 false (some 9),
 .row [.fn 151 [] [.ptr 22 0 0 1], .fn 152 [] []] 0 0 0 false (some 164),
 .row [.str [69, 88, 80, 85, 78, 71, 69]] 0 0 0 false (some 9),
 .row [.fn 151 [] [.ptr 24 0 0 1], .fn 152 [] []] 0 0 0 false (some 164),
 .row [.fn 153 [] [], .fn 156 [] []] 0 0 0 false (some 164),
 .row [.str [42, 32, 79, 75]] 0 0 0 false (some 9),
 .row [.fn 159 [] [.ptr 27 0 0 1], .fn 160 [] []] 0 0 0 false (some 164),
 .row [.str [42, 32, 66, 89, 69]] 0 0 0 false (some 9),
 .row [.fn 159 [] [.ptr 29 0 0 1], .fn 160 [] []] 0 0 0 false (some 164),
 .row [.str [42, 32, 66, 65, 68]] 0 0 0 false (some 9),
 .row [.fn 159 [] [.ptr 31 0 0 1], .fn 160 [] []] 0 0 0 false (some 164),
 .row [.fn 162 [] [], .fn 163 [] []] 0 0 0 false (some 164),
 .row [.str [43]] 0 0 0 false (some 9),
 .row [.fn 159 [] [.ptr 34 0 0 1], .fn 160 [] []] 0 0 0 false (some 164),
 .row [.int .i64 (6), .int .u32 (0), .str [], .int .i64 (0), .str [114, 101, 97, 100, 121], .int .i64 (0), .int .u8 (0), .int .u32 (0), .int .u32 (0), .zy] 0 0 0 false (some 32),
 .row [.int .i64 (0), .int .u32 (0), .str [], .int .i64 (0), .str [114, 101, 97, 100, 121], .int .i64 (0), .int .u8 (0), .int .u32 (0), .int .u32 (0), .zy] 0 0 0 false (some 32),
 .row [.fn 161 [] []] 0 0 0 false (some 218),
 .row [.int .i64 (6), .int .u32 (0), .str [], .int .i64 (0), .str [114, 101, 97, 100, 121], .int .i64 (0), .int .u8 (0), .int .u32 (0), .int .u32 (0), .zy] 0 0 0 false (some 32),
 .row [.int .i64 (6), .int .u32 (0), .str [], .int .i64 (0), .str [114, 101, 97, 100, 121], .int .i64 (0), .int .u8 (0), .int .u32 (0), .int .u32 (0), .zy] 0 0 0 false (some 32),
 .row [.int .i64 (6), .int .u32 (0), .str [], .int .i64 (0), .str [114, 101, 97, 100, 121], .int .i64 (0), .int .u8 (0), .int .u32 (0), .int .u32 (0), .zy] 0 0 0 false (some 32),
 .map [(.int .i64 (1), .agg [.fn 151 [] [.ptr 43 0 0 1], .fn 152 [] []]), (.int .i64 (2), .agg [.fn 151 [] [.ptr 45 0 0 1], .fn 152 [] []]), (.int .i64 (3), .agg [.fn 151 [] [.ptr 47 0 0 1], .fn 152 [] []]), (.int .i64 (4), .agg [.fn 153 [] [], .fn 156 [] []]), (.int .i64 (5), .agg [.fn 107 [] [], .fn 109 [] []]), (.int .i64 (6), .agg [.fn 159 [] [.ptr 50 0 0 1], .fn 160 [] []]), (.int .i64 (7), .agg [.fn 159 [] [.ptr 52 0 0 1], .fn 160 [] []]), (.int .i64 (8), .agg [.fn 159 [] [.ptr 54 0 0 1], .fn 160 [] []]), (.int .i64 (9), .agg [.fn 162 [] [], .fn 163 [] []]), (.int .i64 (10), .agg [.fn 159 [] [.ptr 57 0 0 1], .fn 160 [] []])],
 .row [.str [69, 88, 73, 83, 84, 83]] 0 0 0 false (some 9),
 .row [.fn 151 [] [.ptr 43 0 0 1], .fn 152 [] []] 0 0 0 false (some 164),
 .row [.str [82, 69, 67, 69, 78, 84]] 0 0 0 false (some 9),
 .row [.fn 151 [] [.ptr 45 0 0 1], .fn 152 [] []] 0 0 0 false (some 164),
 .row [.str [69, 88, 80, 85, 78, 71, 69]] 0 0 0 false (some 9),
 .row [.fn 151 [] [.ptr 47 0 0 1], .fn 152 [] []] 0 0 0 false (some 164),
 .row [.fn 153 [] [], .fn 156 [] []] 0 0 0 false (some 164),
 .row [.str [42, 32, 79, 75]] 0 0 0 false (some 9),
 .row [.fn 159 [] [.ptr 50 0 0 1], .fn 160 [] []] 0 0 0 false (some 164),
 .row [.str [42, 32, 66, 89, 69]] 0 0 0 false (some 9),
 .row [.fn 159 [] [.ptr 52 0 0 1], .fn 160 [] []] 0 0 0 false (some 164),
 .row [.str [42, 32, 66, 65, 68]] 0 0 0 false (some 9),
 .row [.fn 159 [] [.ptr 54 0 0 1], .fn 160 [] []] 0 0 0 false (some 164),
 .row [.fn 162 [] [], .fn 163 [] []] 0 0 0 false (some 164),
 .row [.str [43]] 0 0 0 false (some 9),
 .row [.fn 159 [] [.ptr 57 0 0 1], .fn 160 [] []] 0 0 0 false (some 164),
 .row [.int .i64 (6), .int .u32 (0), .str [], .int .i64 (0), .str [114, 101, 97, 100, 121], .int .i64 (0), .int .u8 (0), .int .u32 (0), .int .u32 (0), .zy] 0 0 0 false (some 32),
 .row [.int .u8 (42), .int .u8 (32), .int .u8 (79), .int .u8 (75), .int .u8 (32), .int .u8 (114), .int .u8 (101), .int .u8 (97), .int .u8 (100), .int .u8 (121), .int .u8 (13), .int .u8 (10)] 0 0 0 false none,
 .row [.int .u8 (42), .int .u8 (32), .int .u8 (79), .int .u8 (75), .int .u8 (32), .int .u8 (114), .int .u8 (101), .int .u8 (97), .int .u8 (100), .int .u8 (121), .int .u8 (13), .int .u8 (10)] 0 0 0 false (some 5)]
def glA : GL := [none,
 none,
 none,
 none,
 none,
 none,
 none,
 none,
 none,
 none,
 none,
 none]
def zhW (b : Blk) : za := Arr.of [.lay [.opq],
 b,
 .lay (aI .u8 [0, 0, 0, 0, 0, 0, 0, 0, 0, 1, 1, 1, 1, 1, 0, 0, 0, 0, 0, 0, 0, 0, 0, 0, 0, 0, 0, 0, 0, 0, 0, 0, 1, 0, 0, 0, 0, 0, 0, 0, 0, 0, 0, 0, 0, 0, 0, 0, 0, 0, 0, 0, 0, 0, 0, 0, 0, 0, 0, 0, 0, 0, 0, 0, 0, 0, 0, 0, 0, 0, 0, 0, 0, 0, 0, 0, 0, 0, 0, 0, 0, 0, 0, 0, 0, 0, 0, 0, 0, 0, 0, 0, 0, 0, 0, 0, 0, 0, 0, 0, 0, 0, 0, 0, 0, 0, 0, 0, 0, 0, 0, 0, 0, 0, 0, 0, 0, 0, 0, 0, 0, 0, 0, 0, 0, 0, 0, 0, 0, 0, 0, 0, 0, 0, 0, 0, 0, 0, 0, 0, 0, 0, 0, 0, 0, 0, 0, 0, 0, 0, 0, 0, 0, 0, 0, 0, 0, 0, 0, 0, 0, 0, 0, 0, 0, 0, 0, 0, 0, 0, 0, 0, 0, 0, 0, 0, 0, 0, 0, 0, 0, 0, 0, 0, 0, 0, 0, 0, 0, 0, 0, 0, 0, 0, 0, 0, 0, 0, 0, 0, 0, 0, 0, 0, 0, 0, 0, 0, 0, 0, 0, 0, 0, 0, 0, 0, 0, 0, 0, 0, 0, 0, 0, 0, 0, 0, 0, 0, 0, 0, 0, 0, 0, 0, 0, 0, 0, 0, 0, 0, 0, 0, 0, 0, 0, 0, 0, 0, 0, 0, 0, 0, 0, 0, 0, 0]),
 .lay [.opq],
 .lay [.opq],
 .lay [.ptr 13 0 0 3],
 .lay (aI .u64 [1, 10, 100, 1000, 10000, 100000, 1000000, 10000000, 100000000, 1000000000, 10000000000, 100000000000, 1000000000000, 10000000000000, 100000000000000, 1000000000000000, 10000000000000000, 100000000000000000, 1000000000000000000, 10000000000000000000]),
 .lay (aI .u8 [0, 1, 28, 2, 29, 14, 24, 3, 30, 22, 20, 15, 25, 17, 4, 8, 31, 27, 13, 23, 21, 19, 16, 7, 26, 12, 18, 6, 11, 5, 10, 9]),
 .lay (aI .u8 [0, 1, 56, 2, 57, 49, 28, 3, 61, 58, 42, 50, 38, 29, 17, 4, 62, 47, 59, 36, 45, 43, 51, 22, 53, 39, 33, 30, 24, 18, 12, 5, 63, 55, 48, 27, 60, 41, 37, 16, 46, 35, 44, 21, 52, 32, 23, 11, 54, 26, 40, 15, 34, 20, 31, 10, 25, 14, 19, 9, 13, 8, 7, 6]),
 .lay (aI .u8 [240, 240, 240, 240, 240, 240, 240, 240, 240, 240, 240, 240, 240, 240, 240, 240, 240, 240, 240, 240, 240, 240, 240, 240, 240, 240, 240, 240, 240, 240, 240, 240, 240, 240, 240, 240, 240, 240, 240, 240, 240, 240, 240, 240, 240, 240, 240, 240, 240, 240, 240, 240, 240, 240, 240, 240, 240, 240, 240, 240, 240, 240, 240, 240, 240, 240, 240, 240, 240, 240, 240, 240, 240, 240, 240, 240, 240, 240, 240, 240, 240, 240, 240, 240, 240, 240, 240, 240, 240, 240, 240, 240, 240, 240, 240, 240, 240, 240, 240, 240, 240, 240, 240, 240, 240, 240, 240, 240, 240, 240, 240, 240, 240, 240, 240, 240, 240, 240, 240, 240, 240, 240, 240, 240, 240, 240, 240, 240, 241, 241, 241, 241, 241, 241, 241, 241, 241, 241, 241, 241, 241, 241, 241, 241, 241, 241, 241, 241, 241, 241, 241, 241, 241, 241, 241, 241, 241, 241, 241, 241, 241, 241, 241, 241, 241, 241, 241, 241, 241, 241, 241, 241, 241, 241, 241, 241, 241, 241, 241, 241, 241, 241, 241, 241, 241, 241, 241, 241, 241, 241, 241, 241, 241, 241, 2, 2, 2, 2, 2, 2, 2, 2, 2, 2, 2, 2, 2, 2, 2, 2, 2, 2, 2, 2, 2, 2, 2, 2, 2, 2, 2, 2, 2, 2, 19, 3, 3, 3, 3, 3, 3, 3, 3, 3, 3, 3, 3, 35, 3, 3, 52, 4, 4, 4, 68, 241, 241, 241, 241, 241, 241, 241, 241, 241, 241, 241]),
 .lay (aI .u8 [128, 191, 160, 191, 128, 159, 144, 191, 128, 143, 0, 0, 0, 0, 0, 0, 0, 0, 0, 0, 0, 0, 0, 0, 0, 0, 0, 0, 0, 0, 0, 0]),
 .dead,
 .lay (aI .u16 [9, 13, 1, 32, 133, 101, 160, 5760, 5600, 8192, 8202, 1, 8232, 8233, 1, 8239, 8287, 48, 12288, 12288, 1]),
 .lay [.sl 12 0 7 3 0 false, .zy, .int .i64 (2)]]
def hgA : za := zhW (.lay [.iv (-9223372036854775808) 1])
def hgB : za := zhW (.lay [.iv 2 9223372036854775807])
theorem lays : kl Tryz.prog 9 Rows.sessionNilRow.laid (Arr.of (List.replicate Tryz.prog.globals.size .dead)) = some (zhW .dead) := by kernel_rfl
def tab : List (FuncId × XK) := [(73, .zfK), (79, .index 1), (117, .indexByte), (315, .zhK .u32), (335, .same), (336, .makeNoZero 22 5), (347, .zje .u32), (348, .zjb .u64), (361, .indexByte), (368, .zgt), (369, .zje .i32), (370, .zgt), (371, .marked), (373, .marked), (374, .zjb .i32), (383, .count), (384, .index 1)]
theorem hmo : Tryz.prog.follows .mixedOrders = true := by kernel_rfl
theorem hng : zd1 Tryz.prog := by
 have h : (Tryz.prog.funcs.toList.all fun fn => !(fn.name == "runtime.NumGoroutine")) = true := by kernel_rfl
 intro f fn hf
 rw [List.all_eq_true] at h
 have := h fn (by rw [Array.mem_toList_iff]; exact Array.mem_of_getElem? hf)
 simpa using this
theorem xfn : ∀ f k, (f, k) ∈ tab -> XFn Tryz.prog f k := by
 intro f k h
 simp only [tab, List.mem_cons, Prod.mk.injEq, List.mem_nil_iff, or_false] at h
 rcases h with ⟨rfl, rfl⟩ | ⟨rfl, rfl⟩ | ⟨rfl, rfl⟩ | ⟨rfl, rfl⟩ | ⟨rfl, rfl⟩ | ⟨rfl, rfl⟩ | ⟨rfl, rfl⟩ | ⟨rfl, rfl⟩ | ⟨rfl, rfl⟩ | ⟨rfl, rfl⟩ | ⟨rfl, rfl⟩ | ⟨rfl, rfl⟩ | ⟨rfl, rfl⟩ | ⟨rfl, rfl⟩ | ⟨rfl, rfl⟩ | ⟨rfl, rfl⟩ | ⟨rfl, rfl⟩
 ·exact ⟨_, _, Tryz.func73, by kernel_rfl, by kernel_rfl, by kernel_rfl, by kernel_rfl, rfl⟩
 ·exact ⟨_, _, Tryz.func79, by kernel_rfl, by kernel_rfl, by kernel_rfl, by kernel_rfl, rfl, by kernel_rfl⟩
 ·exact ⟨_, _, Tryz.func117, by kernel_rfl, by kernel_rfl, by kernel_rfl, by kernel_rfl, rfl⟩
 ·exact ⟨_, _, Tryz.func315, by kernel_rfl, by kernel_rfl, by kernel_rfl, by kernel_rfl, rfl⟩
 ·exact ⟨_, _, Tryz.func335, by kernel_rfl, by kernel_rfl, by kernel_rfl, by kernel_rfl, rfl⟩
 ·exact ⟨_, Extern.BytealgMakeNoZero.makeNoZero #[3] #[22], Tryz.func336, by kernel_rfl, by kernel_rfl, by kernel_rfl, by kernel_rfl, ⟨#[3], rfl⟩, by kernel_rfl⟩
 ·exact ⟨_, _, Tryz.func347, by kernel_rfl, by kernel_rfl, by kernel_rfl, by kernel_rfl, rfl⟩
 ·exact ⟨_, _, Tryz.func348, by kernel_rfl, by kernel_rfl, by kernel_rfl, by kernel_rfl, rfl⟩
 ·exact ⟨_, _, Tryz.func361, by kernel_rfl, by kernel_rfl, by kernel_rfl, by kernel_rfl, rfl⟩
 ·exact ⟨_, _, Tryz.func368, by kernel_rfl, by kernel_rfl, by kernel_rfl, by kernel_rfl, .disable, rfl⟩
 ·exact ⟨_, _, Tryz.func369, by kernel_rfl, by kernel_rfl, by kernel_rfl, by kernel_rfl, rfl⟩
 ·exact ⟨_, _, Tryz.func370, by kernel_rfl, by kernel_rfl, by kernel_rfl, by kernel_rfl, .enable, rfl⟩
 ·exact ⟨_, _, Tryz.func371, by kernel_rfl, by kernel_rfl, by kernel_rfl, by kernel_rfl, .acquire, rfl⟩
 ·exact ⟨_, _, Tryz.func373, by kernel_rfl, by kernel_rfl, by kernel_rfl, by kernel_rfl, .releaseMerge, rfl⟩
 ·exact ⟨_, _, Tryz.func374, by kernel_rfl, by kernel_rfl, by kernel_rfl, by kernel_rfl, rfl⟩
 ·exact ⟨_, _, Tryz.func383, by kernel_rfl, by kernel_rfl, by kernel_rfl, by kernel_rfl, rfl⟩
 ·exact ⟨_, _, Tryz.func384, by kernel_rfl, by kernel_rfl, by kernel_rfl, by kernel_rfl, rfl, by kernel_rfl⟩
end Go.Proofs.YtnbfgnfpdlelbaaGreatDoor
