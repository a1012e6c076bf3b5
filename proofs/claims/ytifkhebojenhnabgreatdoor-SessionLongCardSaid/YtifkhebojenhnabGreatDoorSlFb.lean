/- The law run by the machine M: one reading of the package variables. -/
import Derived.Test.YtifkhebojenhnabGreatDoorSlFa
set_option maxRecDepth 100000
namespace Go.Proofs.YtifkhebojenhnabGreatDoor
open Go Go.Gx Go.Mx Go.Sx
theorem zlr(k:Int):zkW hgA k=zhn hgA k:=by kernel_rfl
theorem zk7(k:Int):kM true (fin (cont hgA k 0))=true:=by kernel_rfl
theorem zk8(k:Int):kM true (fin (cont hgA k 1))=true:=by kernel_rfl
theorem zk9(k:Int):kM true (fin (cont hgA k 2))=true:=by kernel_rfl
theorem zlR(b:UInt8):∃ h',wx Tryz.prog (zC Tryz.prog hkA 8000) 3 [.int .u8 (b.toNat:Int)] hgA=some (.ret (.bool true) h'):=zh9 zlr zk7 zk8 zk9 b
end Go.Proofs.YtifkhebojenhnabGreatDoor
