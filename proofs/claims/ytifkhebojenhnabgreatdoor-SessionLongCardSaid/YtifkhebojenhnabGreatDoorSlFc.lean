/- The law run by the machine M: one reading of the package variables. -/
import Derived.Test.YtifkhebojenhnabGreatDoorSlFa
set_option maxRecDepth 100000
namespace Go.Proofs.YtifkhebojenhnabGreatDoor
open Go Go.Gx Go.Mx Go.Sx
theorem zls(k:Int):zkW hgB k=zhn hgB k:=by kernel_rfl
theorem zla(k:Int):kM true (fin (cont hgB k 0))=true:=by kernel_rfl
theorem zlb(k:Int):kM true (fin (cont hgB k 1))=true:=by kernel_rfl
theorem zlc(k:Int):kM true (fin (cont hgB k 2))=true:=by kernel_rfl
theorem zlS(b:UInt8):∃ h',wx Tryz.prog (zC Tryz.prog hkA 8000) 3 [.int .u8 (b.toNat:Int)] hgB=some (.ret (.bool true) h'):=zh9 zls zla zlb zlc b
end Go.Proofs.YtifkhebojenhnabGreatDoor
