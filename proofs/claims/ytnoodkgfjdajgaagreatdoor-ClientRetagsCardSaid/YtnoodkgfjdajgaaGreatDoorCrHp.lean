/- The package variables as the machine sees them. -/
import Derived.Test.YtnoodkgfjdajgaaGreatDoorRows
import Derived.Test.YtnoodkgfjdajgaaGreatDoorBase4
import Derived.KernelRfl
set_option maxRecDepth 100000
namespace Go.Proofs.YtnoodkgfjdajgaaGreatDoor
open Go Go.Gx Go.Mx Go.Sx
def glA : GL := [none,
  none,
  some [.a (.int .u64 (1 : Int)), .a (.int .u64 (10 : Int)), .a (.int .u64 (100 : Int)), .a (.int .u64 (1000 : Int)), .a (.int .u64 (10000 : Int)), .a (.int .u64 (100000 : Int)), .a (.int .u64 (1000000 : Int)), .a (.int .u64 (10000000 : Int)), .a (.int .u64 (100000000 : Int)), .a (.int .u64 (1000000000 : Int)), .a (.int .u64 (10000000000 : Int)), .a (.int .u64 (100000000000 : Int)), .a (.int .u64 (1000000000000 : Int)), .a (.int .u64 (10000000000000 : Int)), .a (.int .u64 (100000000000000 : Int)), .a (.int .u64 (1000000000000000 : Int)), .a (.int .u64 (10000000000000000 : Int)), .a (.int .u64 (100000000000000000 : Int)), .a (.int .u64 (1000000000000000000 : Int)), .a (.int .u64 (10000000000000000000 : Int))],
  none,
  some [.u8 0, .u8 1, .u8 28, .u8 2, .u8 29, .u8 14, .u8 24, .u8 3, .u8 30, .u8 22, .u8 20, .u8 15, .u8 25, .u8 17, .u8 4, .u8 8, .u8 31, .u8 27, .u8 13, .u8 23, .u8 21, .u8 19, .u8 16, .u8 7, .u8 26, .u8 12, .u8 18, .u8 6, .u8 11, .u8 5, .u8 10, .u8 9],
  some [.u8 0, .u8 1, .u8 56, .u8 2, .u8 57, .u8 49, .u8 28, .u8 3, .u8 61, .u8 58, .u8 42, .u8 50, .u8 38, .u8 29, .u8 17, .u8 4, .u8 62, .u8 47, .u8 59, .u8 36, .u8 45, .u8 43, .u8 51, .u8 22, .u8 53, .u8 39, .u8 33, .u8 30, .u8 24, .u8 18, .u8 12, .u8 5, .u8 63, .u8 55, .u8 48, .u8 27, .u8 60, .u8 41, .u8 37, .u8 16, .u8 46, .u8 35, .u8 44, .u8 21, .u8 52, .u8 32, .u8 23, .u8 11, .u8 54, .u8 26, .u8 40, .u8 15, .u8 34, .u8 20, .u8 31, .u8 10, .u8 25, .u8 14, .u8 19, .u8 9, .u8 13, .u8 8, .u8 7, .u8 6],
  none,
  none,
  none,
  none,
  none]
def hglOf (b : Blk) : Heap := Arr.of [.lay [.int .u8 (0), .int .u8 (0), .int .u8 (0), .int .u8 (0), .int .u8 (0), .int .u8 (0), .int .u8 (0), .int .u8 (0), .int .u8 (0), .int .u8 (1), .int .u8 (1), .int .u8 (1), .int .u8 (1), .int .u8 (1), .int .u8 (0), .int .u8 (0), .int .u8 (0), .int .u8 (0), .int .u8 (0), .int .u8 (0), .int .u8 (0), .int .u8 (0), .int .u8 (0), .int .u8 (0), .int .u8 (0), .int .u8 (0), .int .u8 (0), .int .u8 (0), .int .u8 (0), .int .u8 (0), .int .u8 (0), .int .u8 (0), .int .u8 (1), .int .u8 (0), .int .u8 (0), .int .u8 (0), .int .u8 (0), .int .u8 (0), .int .u8 (0), .int .u8 (0), .int .u8 (0), .int .u8 (0), .int .u8 (0), .int .u8 (0), .int .u8 (0), .int .u8 (0), .int .u8 (0), .int .u8 (0), .int .u8 (0), .int .u8 (0), .int .u8 (0), .int .u8 (0), .int .u8 (0), .int .u8 (0), .int .u8 (0), .int .u8 (0), .int .u8 (0), .int .u8 (0), .int .u8 (0), .int .u8 (0), .int .u8 (0), .int .u8 (0), .int .u8 (0), .int .u8 (0), .int .u8 (0), .int .u8 (0), .int .u8 (0), .int .u8 (0), .int .u8 (0), .int .u8 (0), .int .u8 (0), .int .u8 (0), .int .u8 (0), .int .u8 (0), .int .u8 (0), .int .u8 (0), .int .u8 (0), .int .u8 (0), .int .u8 (0), .int .u8 (0), .int .u8 (0), .int .u8 (0), .int .u8 (0), .int .u8 (0), .int .u8 (0), .int .u8 (0), .int .u8 (0), .int .u8 (0), .int .u8 (0), .int .u8 (0), .int .u8 (0), .int .u8 (0), .int .u8 (0), .int .u8 (0), .int .u8 (0), .int .u8 (0), .int .u8 (0), .int .u8 (0), .int .u8 (0), .int .u8 (0), .int .u8 (0), .int .u8 (0), .int .u8 (0), .int .u8 (0), .int .u8 (0), .int .u8 (0), .int .u8 (0), .int .u8 (0), .int .u8 (0), .int .u8 (0), .int .u8 (0), .int .u8 (0), .int .u8 (0), .int .u8 (0), .int .u8 (0), .int .u8 (0), .int .u8 (0), .int .u8 (0), .int .u8 (0), .int .u8 (0), .int .u8 (0), .int .u8 (0), .int .u8 (0), .int .u8 (0), .int .u8 (0), .int .u8 (0), .int .u8 (0), .int .u8 (0), .int .u8 (0), .int .u8 (0), .int .u8 (0), .int .u8 (0), .int .u8 (0), .int .u8 (0), .int .u8 (0), .int .u8 (0), .int .u8 (0), .int .u8 (0), .int .u8 (0), .int .u8 (0), .int .u8 (0), .int .u8 (0), .int .u8 (0), .int .u8 (0), .int .u8 (0), .int .u8 (0), .int .u8 (0), .int .u8 (0), .int .u8 (0), .int .u8 (0), .int .u8 (0), .int .u8 (0), .int .u8 (0), .int .u8 (0), .int .u8 (0), .int .u8 (0), .int .u8 (0), .int .u8 (0), .int .u8 (0), .int .u8 (0), .int .u8 (0), .int .u8 (0), .int .u8 (0), .int .u8 (0), .int .u8 (0), .int .u8 (0), .int .u8 (0), .int .u8 (0), .int .u8 (0), .int .u8 (0), .int .u8 (0), .int .u8 (0), .int .u8 (0), .int .u8 (0), .int .u8 (0), .int .u8 (0), .int .u8 (0), .int .u8 (0), .int .u8 (0), .int .u8 (0), .int .u8 (0), .int .u8 (0), .int .u8 (0), .int .u8 (0), .int .u8 (0), .int .u8 (0), .int .u8 (0), .int .u8 (0), .int .u8 (0), .int .u8 (0), .int .u8 (0), .int .u8 (0), .int .u8 (0), .int .u8 (0), .int .u8 (0), .int .u8 (0), .int .u8 (0), .int .u8 (0), .int .u8 (0), .int .u8 (0), .int .u8 (0), .int .u8 (0), .int .u8 (0), .int .u8 (0), .int .u8 (0), .int .u8 (0), .int .u8 (0), .int .u8 (0), .int .u8 (0), .int .u8 (0), .int .u8 (0), .int .u8 (0), .int .u8 (0), .int .u8 (0), .int .u8 (0), .int .u8 (0), .int .u8 (0), .int .u8 (0), .int .u8 (0), .int .u8 (0), .int .u8 (0), .int .u8 (0), .int .u8 (0), .int .u8 (0), .int .u8 (0), .int .u8 (0), .int .u8 (0), .int .u8 (0), .int .u8 (0), .int .u8 (0), .int .u8 (0), .int .u8 (0), .int .u8 (0), .int .u8 (0), .int .u8 (0), .int .u8 (0), .int .u8 (0), .int .u8 (0), .int .u8 (0), .int .u8 (0), .int .u8 (0), .int .u8 (0), .int .u8 (0), .int .u8 (0), .int .u8 (0), .int .u8 (0), .int .u8 (0), .int .u8 (0), .int .u8 (0), .int .u8 (0), .int .u8 (0), .int .u8 (0), .int .u8 (0), .int .u8 (0), .int .u8 (0), .int .u8 (0)],
  .lay [.ptr 12 0 0 3],
  .lay [.int .u64 (1), .int .u64 (10), .int .u64 (100), .int .u64 (1000), .int .u64 (10000), .int .u64 (100000), .int .u64 (1000000), .int .u64 (10000000), .int .u64 (100000000), .int .u64 (1000000000), .int .u64 (10000000000), .int .u64 (100000000000), .int .u64 (1000000000000), .int .u64 (10000000000000), .int .u64 (100000000000000), .int .u64 (1000000000000000), .int .u64 (10000000000000000), .int .u64 (100000000000000000), .int .u64 (1000000000000000000), .int .u64 (10000000000000000000)],
  b,
  .lay [.int .u8 (0), .int .u8 (1), .int .u8 (28), .int .u8 (2), .int .u8 (29), .int .u8 (14), .int .u8 (24), .int .u8 (3), .int .u8 (30), .int .u8 (22), .int .u8 (20), .int .u8 (15), .int .u8 (25), .int .u8 (17), .int .u8 (4), .int .u8 (8), .int .u8 (31), .int .u8 (27), .int .u8 (13), .int .u8 (23), .int .u8 (21), .int .u8 (19), .int .u8 (16), .int .u8 (7), .int .u8 (26), .int .u8 (12), .int .u8 (18), .int .u8 (6), .int .u8 (11), .int .u8 (5), .int .u8 (10), .int .u8 (9)],
  .lay [.int .u8 (0), .int .u8 (1), .int .u8 (56), .int .u8 (2), .int .u8 (57), .int .u8 (49), .int .u8 (28), .int .u8 (3), .int .u8 (61), .int .u8 (58), .int .u8 (42), .int .u8 (50), .int .u8 (38), .int .u8 (29), .int .u8 (17), .int .u8 (4), .int .u8 (62), .int .u8 (47), .int .u8 (59), .int .u8 (36), .int .u8 (45), .int .u8 (43), .int .u8 (51), .int .u8 (22), .int .u8 (53), .int .u8 (39), .int .u8 (33), .int .u8 (30), .int .u8 (24), .int .u8 (18), .int .u8 (12), .int .u8 (5), .int .u8 (63), .int .u8 (55), .int .u8 (48), .int .u8 (27), .int .u8 (60), .int .u8 (41), .int .u8 (37), .int .u8 (16), .int .u8 (46), .int .u8 (35), .int .u8 (44), .int .u8 (21), .int .u8 (52), .int .u8 (32), .int .u8 (23), .int .u8 (11), .int .u8 (54), .int .u8 (26), .int .u8 (40), .int .u8 (15), .int .u8 (34), .int .u8 (20), .int .u8 (31), .int .u8 (10), .int .u8 (25), .int .u8 (14), .int .u8 (19), .int .u8 (9), .int .u8 (13), .int .u8 (8), .int .u8 (7), .int .u8 (6)],
  .dead,
  .dead,
  .lay [.opq],
  .lay [.opq],
  .dead,
  .lay [.int .u16 (9), .int .u16 (13), .int .u16 (1), .int .u16 (32), .int .u16 (133), .int .u16 (101), .int .u16 (160), .int .u16 (5760), .int .u16 (5600), .int .u16 (8192), .int .u16 (8202), .int .u16 (1), .int .u16 (8232), .int .u16 (8233), .int .u16 (1), .int .u16 (8239), .int .u16 (8287), .int .u16 (48), .int .u16 (12288), .int .u16 (12288), .int .u16 (1)],
  .lay [.sl 11 0 7 3 0 false, .nils, .int .i64 (2)]]
def hgA : Heap := hglOf (.lay [.iv (-9223372036854775808) 1])
def hgB : Heap := hglOf (.lay [.iv 2 9223372036854775807])
theorem lays : layVars Tryz.prog 9 Rows.clientRetagsRow.laid (Arr.of (List.replicate Tryz.prog.globals.size .dead)) = some (hglOf .dead) := by kernel_rfl
def tab : List (FuncId × XK) := [(126, .indexByte), (160, .same), (161, .makeNoZero 29 5), (187, .index 3), (239, .indexByte), (254, .count), (255, .index 3)]
theorem hmo : Tryz.prog.follows .mixedOrders = true := by kernel_rfl
theorem hng : NoNG Tryz.prog := by
  have h : (Tryz.prog.funcs.toList.all fun fn => !(fn.name == "runtime.NumGoroutine")) = true := by kernel_rfl
  intro f fn hf
  rw [List.all_eq_true] at h
  have := h fn (by rw [Array.mem_toList_iff]; exact Array.mem_of_getElem? hf)
  simpa using this
theorem xfn : ∀ f k, (f, k) ∈ tab → XFn Tryz.prog f k := by
  intro f k h
  simp only [tab, List.mem_cons, Prod.mk.injEq, List.mem_nil_iff, or_false] at h
  rcases h with ⟨rfl, rfl⟩ | ⟨rfl, rfl⟩ | ⟨rfl, rfl⟩ | ⟨rfl, rfl⟩ | ⟨rfl, rfl⟩ | ⟨rfl, rfl⟩ | ⟨rfl, rfl⟩
  · exact ⟨_, _, Tryz.func126, by kernel_rfl, by kernel_rfl, by kernel_rfl, by kernel_rfl, rfl⟩
  · exact ⟨_, _, Tryz.func160, by kernel_rfl, by kernel_rfl, by kernel_rfl, by kernel_rfl, rfl⟩
  · exact ⟨_, Extern.BytealgMakeNoZero.makeNoZero #[3] #[29], Tryz.func161, by kernel_rfl, by kernel_rfl, by kernel_rfl, by kernel_rfl, ⟨#[3], rfl⟩, by kernel_rfl⟩
  · exact ⟨_, _, Tryz.func187, by kernel_rfl, by kernel_rfl, by kernel_rfl, by kernel_rfl, rfl, by kernel_rfl⟩
  · exact ⟨_, _, Tryz.func239, by kernel_rfl, by kernel_rfl, by kernel_rfl, by kernel_rfl, rfl⟩
  · exact ⟨_, _, Tryz.func254, by kernel_rfl, by kernel_rfl, by kernel_rfl, by kernel_rfl, rfl⟩
  · exact ⟨_, _, Tryz.func255, by kernel_rfl, by kernel_rfl, by kernel_rfl, by kernel_rfl, rfl, by kernel_rfl⟩
end Go.Proofs.YtnoodkgfjdajgaaGreatDoor
