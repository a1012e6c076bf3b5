/- The package variables as the machine sees them. -/
import Derived.Test.YtfkgbpkgggaphaaGreatDoorRows
import Derived.Test.YtfkgbpkgggaphaaGreatDoorBase5
import Derived.KernelRfl
set_option maxRecDepth 100000
namespace Go.Proofs.YtfkgbpkgggaphaaGreatDoor
open Go Go.Gx Go.Mx Go.Sx
def cl8_a : List AV := [.int .i64 (1 : Int), .int .i64 (1 : Int), .int .u32 (1 : Int)]
def cl8_v : AV := .ptr 21 0 0 5
def cl8_b : List Blk := [.row [.sl 13 0 1 1 0 false] 0 0 0 false (some 74),
  .map [],
  .row [.int .i32 (0), .int .u32 (0), .map 10] 0 0 0 false (some 84),
  .row [.ptr 11 0 0 3] 0 0 0 false (some 75),
  .row [.ptr 11 0 0 3] 0 0 0 false (some 75),
  .row [.int .u32 (1), .int .u64 (0), .int .u32 (1), .int .u32 (0), .int .u32 (0), .int .i32 (0), .int .u32 (0)] 0 0 0 false (some 98),
  .row [.nils] 0 0 0 false (some 100),
  .row [.nils] 0 0 0 false (some 100),
  .gone,
  .gone,
  .row [.nils] 0 0 0 false (some 107),
  .map [],
  .row [.ptr 9 0 0 1, .ptr 14 0 0 7, .ptr 19 0 0 1, .int .i64 (1), .map 20] 0 0 0 false (some 56)]
def glA : GL := [none,
  none,
  none,
  none,
  none,
  none,
  none]
def hglOf (b : Blk) : Heap := Arr.of [.lay [.int .u8 (0), .int .u8 (0), .int .u8 (0), .int .u8 (0), .int .u8 (0), .int .u8 (0), .int .u8 (0), .int .u8 (0), .int .u8 (0), .int .u8 (1), .int .u8 (1), .int .u8 (1), .int .u8 (1), .int .u8 (1), .int .u8 (0), .int .u8 (0), .int .u8 (0), .int .u8 (0), .int .u8 (0), .int .u8 (0), .int .u8 (0), .int .u8 (0), .int .u8 (0), .int .u8 (0), .int .u8 (0), .int .u8 (0), .int .u8 (0), .int .u8 (0), .int .u8 (0), .int .u8 (0), .int .u8 (0), .int .u8 (0), .int .u8 (1), .int .u8 (0), .int .u8 (0), .int .u8 (0), .int .u8 (0), .int .u8 (0), .int .u8 (0), .int .u8 (0), .int .u8 (0), .int .u8 (0), .int .u8 (0), .int .u8 (0), .int .u8 (0), .int .u8 (0), .int .u8 (0), .int .u8 (0), .int .u8 (0), .int .u8 (0), .int .u8 (0), .int .u8 (0), .int .u8 (0), .int .u8 (0), .int .u8 (0), .int .u8 (0), .int .u8 (0), .int .u8 (0), .int .u8 (0), .int .u8 (0), .int .u8 (0), .int .u8 (0), .int .u8 (0), .int .u8 (0), .int .u8 (0), .int .u8 (0), .int .u8 (0), .int .u8 (0), .int .u8 (0), .int .u8 (0), .int .u8 (0), .int .u8 (0), .int .u8 (0), .int .u8 (0), .int .u8 (0), .int .u8 (0), .int .u8 (0), .int .u8 (0), .int .u8 (0), .int .u8 (0), .int .u8 (0), .int .u8 (0), .int .u8 (0), .int .u8 (0), .int .u8 (0), .int .u8 (0), .int .u8 (0), .int .u8 (0), .int .u8 (0), .int .u8 (0), .int .u8 (0), .int .u8 (0), .int .u8 (0), .int .u8 (0), .int .u8 (0), .int .u8 (0), .int .u8 (0), .int .u8 (0), .int .u8 (0), .int .u8 (0), .int .u8 (0), .int .u8 (0), .int .u8 (0), .int .u8 (0), .int .u8 (0), .int .u8 (0), .int .u8 (0), .int .u8 (0), .int .u8 (0), .int .u8 (0), .int .u8 (0), .int .u8 (0), .int .u8 (0), .int .u8 (0), .int .u8 (0), .int .u8 (0), .int .u8 (0), .int .u8 (0), .int .u8 (0), .int .u8 (0), .int .u8 (0), .int .u8 (0), .int .u8 (0), .int .u8 (0), .int .u8 (0), .int .u8 (0), .int .u8 (0), .int .u8 (0), .int .u8 (0), .int .u8 (0), .int .u8 (0), .int .u8 (0), .int .u8 (0), .int .u8 (0), .int .u8 (0), .int .u8 (0), .int .u8 (0), .int .u8 (0), .int .u8 (0), .int .u8 (0), .int .u8 (0), .int .u8 (0), .int .u8 (0), .int .u8 (0), .int .u8 (0), .int .u8 (0), .int .u8 (0), .int .u8 (0), .int .u8 (0), .int .u8 (0), .int .u8 (0), .int .u8 (0), .int .u8 (0), .int .u8 (0), .int .u8 (0), .int .u8 (0), .int .u8 (0), .int .u8 (0), .int .u8 (0), .int .u8 (0), .int .u8 (0), .int .u8 (0), .int .u8 (0), .int .u8 (0), .int .u8 (0), .int .u8 (0), .int .u8 (0), .int .u8 (0), .int .u8 (0), .int .u8 (0), .int .u8 (0), .int .u8 (0), .int .u8 (0), .int .u8 (0), .int .u8 (0), .int .u8 (0), .int .u8 (0), .int .u8 (0), .int .u8 (0), .int .u8 (0), .int .u8 (0), .int .u8 (0), .int .u8 (0), .int .u8 (0), .int .u8 (0), .int .u8 (0), .int .u8 (0), .int .u8 (0), .int .u8 (0), .int .u8 (0), .int .u8 (0), .int .u8 (0), .int .u8 (0), .int .u8 (0), .int .u8 (0), .int .u8 (0), .int .u8 (0), .int .u8 (0), .int .u8 (0), .int .u8 (0), .int .u8 (0), .int .u8 (0), .int .u8 (0), .int .u8 (0), .int .u8 (0), .int .u8 (0), .int .u8 (0), .int .u8 (0), .int .u8 (0), .int .u8 (0), .int .u8 (0), .int .u8 (0), .int .u8 (0), .int .u8 (0), .int .u8 (0), .int .u8 (0), .int .u8 (0), .int .u8 (0), .int .u8 (0), .int .u8 (0), .int .u8 (0), .int .u8 (0), .int .u8 (0), .int .u8 (0), .int .u8 (0), .int .u8 (0), .int .u8 (0), .int .u8 (0), .int .u8 (0), .int .u8 (0), .int .u8 (0), .int .u8 (0), .int .u8 (0), .int .u8 (0), .int .u8 (0), .int .u8 (0), .int .u8 (0), .int .u8 (0), .int .u8 (0), .int .u8 (0), .int .u8 (0), .int .u8 (0), .int .u8 (0), .int .u8 (0), .int .u8 (0), .int .u8 (0), .int .u8 (0), .int .u8 (0), .int .u8 (0), .int .u8 (0), .int .u8 (0), .int .u8 (0), .int .u8 (0), .int .u8 (0), .int .u8 (0), .int .u8 (0)],
  .lay [.ptr 8 0 0 3],
  .lay [.int .u64 (1), .int .u64 (10), .int .u64 (100), .int .u64 (1000), .int .u64 (10000), .int .u64 (100000), .int .u64 (1000000), .int .u64 (10000000), .int .u64 (100000000), .int .u64 (1000000000), .int .u64 (10000000000), .int .u64 (100000000000), .int .u64 (1000000000000), .int .u64 (10000000000000), .int .u64 (100000000000000), .int .u64 (1000000000000000), .int .u64 (10000000000000000), .int .u64 (100000000000000000), .int .u64 (1000000000000000000), .int .u64 (10000000000000000000)],
  b,
  .lay [.int .u8 (0), .int .u8 (1), .int .u8 (28), .int .u8 (2), .int .u8 (29), .int .u8 (14), .int .u8 (24), .int .u8 (3), .int .u8 (30), .int .u8 (22), .int .u8 (20), .int .u8 (15), .int .u8 (25), .int .u8 (17), .int .u8 (4), .int .u8 (8), .int .u8 (31), .int .u8 (27), .int .u8 (13), .int .u8 (23), .int .u8 (21), .int .u8 (19), .int .u8 (16), .int .u8 (7), .int .u8 (26), .int .u8 (12), .int .u8 (18), .int .u8 (6), .int .u8 (11), .int .u8 (5), .int .u8 (10), .int .u8 (9)],
  .lay [.int .u8 (0), .int .u8 (1), .int .u8 (56), .int .u8 (2), .int .u8 (57), .int .u8 (49), .int .u8 (28), .int .u8 (3), .int .u8 (61), .int .u8 (58), .int .u8 (42), .int .u8 (50), .int .u8 (38), .int .u8 (29), .int .u8 (17), .int .u8 (4), .int .u8 (62), .int .u8 (47), .int .u8 (59), .int .u8 (36), .int .u8 (45), .int .u8 (43), .int .u8 (51), .int .u8 (22), .int .u8 (53), .int .u8 (39), .int .u8 (33), .int .u8 (30), .int .u8 (24), .int .u8 (18), .int .u8 (12), .int .u8 (5), .int .u8 (63), .int .u8 (55), .int .u8 (48), .int .u8 (27), .int .u8 (60), .int .u8 (41), .int .u8 (37), .int .u8 (16), .int .u8 (46), .int .u8 (35), .int .u8 (44), .int .u8 (21), .int .u8 (52), .int .u8 (32), .int .u8 (23), .int .u8 (11), .int .u8 (54), .int .u8 (26), .int .u8 (40), .int .u8 (15), .int .u8 (34), .int .u8 (20), .int .u8 (31), .int .u8 (10), .int .u8 (25), .int .u8 (14), .int .u8 (19), .int .u8 (9), .int .u8 (13), .int .u8 (8), .int .u8 (7), .int .u8 (6)],
  .dead,
  .lay [.int .u16 (9), .int .u16 (13), .int .u16 (1), .int .u16 (32), .int .u16 (133), .int .u16 (101), .int .u16 (160), .int .u16 (5760), .int .u16 (5600), .int .u16 (8192), .int .u16 (8202), .int .u16 (1), .int .u16 (8232), .int .u16 (8233), .int .u16 (1), .int .u16 (8239), .int .u16 (8287), .int .u16 (48), .int .u16 (12288), .int .u16 (12288), .int .u16 (1)],
  .lay [.sl 7 0 7 3 0 false, .nils, .int .i64 (2)]]
def hgA : Heap := hglOf (.lay [.iv (-9223372036854775808) 1])
def hgB : Heap := hglOf (.lay [.iv 2 9223372036854775807])
theorem lays : layVars Tryz.prog 9 Rows.execNilRow.laid (Arr.of (List.replicate Tryz.prog.globals.size .dead)) = some (hglOf .dead) := by kernel_rfl
def tab : List (FuncId × XK) := [(43, .astore), (191, .aload .u32), (219, .acas .u32), (220, .aadd .u64), (233, .same), (234, .makeNoZero 24 5), (238, .mark0), (239, .acas .i32), (240, .mark0), (241, .marked), (243, .marked), (244, .aadd .i32)]
theorem hmo : Tryz.prog.follows .mixedOrders = true := by kernel_rfl
theorem hng : NoNG Tryz.prog := by
  have h : (Tryz.prog.funcs.toList.all fun fn => !(fn.name == "runtime.NumGoroutine")) = true := by kernel_rfl
  intro f fn hf
  rw [List.all_eq_true] at h
  have := h fn (by rw [Array.mem_toList_iff]; exact Array.mem_of_getElem? hf)
  simpa using this
theorem xfn : ∀ f k, (f, k) ∈ tab → XFn Tryz.prog f k := by
  intro f k h
  simp only [tab, List.mem_cons, Prod.mk.injEq, List.mem_nil_iff, or_false] at h
  rcases h with ⟨rfl, rfl⟩ | ⟨rfl, rfl⟩ | ⟨rfl, rfl⟩ | ⟨rfl, rfl⟩ | ⟨rfl, rfl⟩ | ⟨rfl, rfl⟩ | ⟨rfl, rfl⟩ | ⟨rfl, rfl⟩ | ⟨rfl, rfl⟩ | ⟨rfl, rfl⟩ | ⟨rfl, rfl⟩ | ⟨rfl, rfl⟩
  · exact ⟨_, _, Tryz.func43, by kernel_rfl, by kernel_rfl, by kernel_rfl, by kernel_rfl, rfl⟩
  · exact ⟨_, _, Tryz.func191, by kernel_rfl, by kernel_rfl, by kernel_rfl, by kernel_rfl, rfl⟩
  · exact ⟨_, _, Tryz.func219, by kernel_rfl, by kernel_rfl, by kernel_rfl, by kernel_rfl, rfl⟩
  · exact ⟨_, _, Tryz.func220, by kernel_rfl, by kernel_rfl, by kernel_rfl, by kernel_rfl, rfl⟩
  · exact ⟨_, _, Tryz.func233, by kernel_rfl, by kernel_rfl, by kernel_rfl, by kernel_rfl, rfl⟩
  · exact ⟨_, Extern.BytealgMakeNoZero.makeNoZero #[3] #[24], Tryz.func234, by kernel_rfl, by kernel_rfl, by kernel_rfl, by kernel_rfl, ⟨#[3], rfl⟩, by kernel_rfl⟩
  · exact ⟨_, _, Tryz.func238, by kernel_rfl, by kernel_rfl, by kernel_rfl, by kernel_rfl, .disable, rfl⟩
  · exact ⟨_, _, Tryz.func239, by kernel_rfl, by kernel_rfl, by kernel_rfl, by kernel_rfl, rfl⟩
  · exact ⟨_, _, Tryz.func240, by kernel_rfl, by kernel_rfl, by kernel_rfl, by kernel_rfl, .enable, rfl⟩
  · exact ⟨_, _, Tryz.func241, by kernel_rfl, by kernel_rfl, by kernel_rfl, by kernel_rfl, .acquire, rfl⟩
  · exact ⟨_, _, Tryz.func243, by kernel_rfl, by kernel_rfl, by kernel_rfl, by kernel_rfl, .releaseMerge, rfl⟩
  · exact ⟨_, _, Tryz.func244, by kernel_rfl, by kernel_rfl, by kernel_rfl, by kernel_rfl, rfl⟩
end Go.Proofs.YtfkgbpkgggaphaaGreatDoor
