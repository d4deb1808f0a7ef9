import Derived.Test.YtliimglbbiebiaaGreatDoorRows
import Derived.LaidByTextLater
import Derived.SevenTiedAt
import Derived.LaidSub
import Derived.LaidOnce
set_option maxRecDepth 100000
set_option maxHeartbeats 6400000
namespace Go.Proofs.YtliimglbbiebiaaGreatDoor
open Go
set_option maxRecDepth 100000
def tieL:List (String×DataW Unit):=[("strconv.ErrSyntax",Rows.laid_strconv_ErrSyntax),("strconv.ErrRange",Rows.laid_strconv_ErrRange),("internal/strconv.uint64pow10",Rows.laid_internal_strconv_uint64pow10),("math/bits.deBruijn32tab",Rows.laid_math_bits_deBruijn32tab),("math/bits.deBruijn64tab",Rows.laid_math_bits_deBruijn64tab),("strings.asciiSpace",Rows.laid_strings_asciiSpace),("unicode.White_Space",Rows.laid_unicode_White_Space),("unicode/utf8.acceptRanges",Rows.laid_unicode_utf8_acceptRanges)]
def tieK:List LaidKind:=[.sentinel,.sentinel,.data,.data,.data,.data,.listed,.data]
theorem tie_f0:Tryz.prog.worded (varsWordLater true)=true:=by kernel_rfl
theorem tie_f1:Tryz.prog.worded (varsWordLater !true)=false:=by kernel_rfl
theorem tie_f2:Tryz.prog.worded rootWordLater=true:=by kernel_rfl
theorem tie_f3:tieL.map (fun x=>Tryz.prog.kindOfLater x.1)=tieK.map some:=by kernel_rfl
theorem tie_f4:(Tryz.prog.funcNamed "gosem.cut.vars").isSome=true:=by kernel_rfl
end Go.Proofs.YtliimglbbiebiaaGreatDoor
