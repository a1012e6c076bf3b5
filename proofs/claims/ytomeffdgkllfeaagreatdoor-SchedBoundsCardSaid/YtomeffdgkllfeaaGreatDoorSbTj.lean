/- Closed facts of the tie. -/
import Derived.Test.YtomeffdgkllfeaaGreatDoorRows
import Derived.LaidByTextLater
import Derived.SevenTiedAt
import Derived.LaidOnce
import Derived.KernelRfl
namespace Go.Proofs.YtomeffdgkllfeaaGreatDoor
open Go
def zif:List (String×DataW Unit):=[("strconv.ErrSyntax",Rows.laid_strconv_ErrSyntax),("strconv.ErrRange",Rows.laid_strconv_ErrRange),("internal/strconv.uint64pow10",Rows.laid_internal_strconv_uint64pow10),("math/bits.deBruijn32tab",Rows.laid_math_bits_deBruijn32tab),("math/bits.deBruijn64tab",Rows.laid_math_bits_deBruijn64tab),("strings.asciiSpace",Rows.laid_strings_asciiSpace),("unicode.White_Space",Rows.laid_unicode_White_Space),("unicode/utf8.acceptRanges",Rows.laid_unicode_utf8_acceptRanges)]
theorem t1:Tryz.prog.worded (varsWordLater true)=true:=by kernel_rfl
theorem t2:Tryz.prog.worded (varsWordLater !true)=false:=by kernel_rfl
theorem t3:Tryz.prog.worded rootWordLater=true:=by kernel_rfl
theorem t4:zif.map (fun x=>Tryz.prog.kindOfLater x.1)=([.sentinel,.sentinel,.data,.data,.data,.data,.listed,.data]:List LaidKind).map some:=by kernel_rfl
theorem t5:(Tryz.prog.funcNamed "gosem.cut.vars").isSome=true:=by kernel_rfl
end Go.Proofs.YtomeffdgkllfeaaGreatDoor
