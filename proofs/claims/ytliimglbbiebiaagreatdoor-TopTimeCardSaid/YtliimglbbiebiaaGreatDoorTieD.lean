import Derived.Test.YtliimglbbiebiaaGreatDoorTieB
import Derived.Test.YtliimglbbiebiaaGreatDoorTieC
import Derived.LaidByTextLater
import Derived.SevenTiedAt
import Derived.LaidSub
import Derived.LaidOnce
set_option maxRecDepth 100000
set_option maxHeartbeats 6400000
namespace Go.Proofs.YtliimglbbiebiaaGreatDoor
open Go
set_option maxRecDepth 100000
theorem tie_all:Tryz.prog.laidByTextLater tieL tieK true:=
 Program.laidByTextLater_by_one 400 8 1000 tie_f0 tie_f1 tie_f2 tie_f3 tie_f4 tie_f5 tie_f9
theorem tie_pin:Tryz.pinned.checked.prog.pinnedFits "unicode/utf8.first" =true:=by kernel_rfl
theorem tie_unsafe:Tryz.pinned.checked.prog.headLifts.contains "ownunsafe" =false:=by kernel_rfl
theorem tie_fits:Tryz.pinned.checked.prog.listedFits [("strconv.ErrSyntax",Rows.laid_strconv_ErrSyntax),("strconv.ErrRange",Rows.laid_strconv_ErrRange),("internal/strconv.uint64pow10",Rows.laid_internal_strconv_uint64pow10),("math/bits.deBruijn32tab",Rows.laid_math_bits_deBruijn32tab),("math/bits.deBruijn64tab",Rows.laid_math_bits_deBruijn64tab),("strings.asciiSpace",Rows.laid_strings_asciiSpace),("unicode.White_Space",Rows.laid_unicode_White_Space),("unicode/utf8.first",Rows.laid_unicode_utf8_first),("unicode/utf8.acceptRanges",Rows.laid_unicode_utf8_acceptRanges)]=true:=by
 unfold Program.listedFits;rw [tie_unsafe]
 kernel_rfl
end Go.Proofs.YtliimglbbiebiaaGreatDoor
