/- A part of the proof: TopRow. -/
import Derived.Test.YtliimglbbiebiaaGreatDoorGTopPairsAV
import Derived.Test.YtliimglbbiebiaaGreatDoorGTopPairsBE
import Derived.ProofKit
import Derived.OpenShut
import Derived.LaidMore
import Derived.Lay
import Derived.Lib.LaidU8
import Derived.Shelf.Vars
import Derived.Stop.Joined
set_option maxRecDepth 100000
set_option maxHeartbeats 6400000
section
namespace Go.Proofs.YtliimglbbiebiaaGreatDoor
open Go.ChangeShapes Go.WideShapes Go.ChangeAt Go.RowKit
theorem tabIs_of_reads {P:Program} {W:World} {name:String} {k:IntKind} {zs:List Int} {g:Nat} {t e:TypeId} {n:Nat}
 (hg:P.globalNamed name=some g) (hty:(P.globals[g]?).map (·.type)=some t) (ht:P.underlying t=some (.array n e)) (he:P.underlying e=some (.int k)) (hce:P.cellsOf e=1) (hct:P.cellsOf t=n)
 (h:Lib.VarReads P W name (Lib.tabData k zs)):Lib.TabIs P W name k zs:=by
 obtain ⟨g',t',cs,fuel,p,hg',ht',hvar,hd⟩:=h
 obtain rfl:=Option.some.inj (hg.symm.trans hg')
 obtain rfl:=Option.some.inj (hty.symm.trans ht')
 unfold Lib.TabIs
 rw [hvar,← Lib.cells_of_tab ht he hce hct hd]
theorem sp_data:(Rows.laid_strings_asciiSpace:DataW Unit)=Lib.tabData .u8 Lib.asciiSpaceTab:=by kernel_rfl
theorem pow_data:(Rows.laid_internal_strconv_uint64pow10:DataW Unit)=Lib.tabData .u64 Lib.pow10Tab:=by kernel_rfl
def laid9:List (String × DataW Unit):=[("strconv.ErrSyntax",Rows.laid_strconv_ErrSyntax),("strconv.ErrRange",Rows.laid_strconv_ErrRange),("internal/strconv.uint64pow10",Rows.laid_internal_strconv_uint64pow10),("math/bits.deBruijn32tab",Rows.laid_math_bits_deBruijn32tab),("math/bits.deBruijn64tab",Rows.laid_math_bits_deBruijn64tab),("strings.asciiSpace",Rows.laid_strings_asciiSpace),("unicode.White_Space",Rows.laid_unicode_White_Space),("unicode/utf8.first",Rows.laid_unicode_utf8_first),("unicode/utf8.acceptRanges",Rows.laid_unicode_utf8_acceptRanges)]
theorem tabs_of {W:World} (hL:laidMetH Tryz.prog laid9 W) (hS:W.ShapedOpen Tryz.prog):Tabs W:=by
 rw [MakeChecks.laidMetH_plain _ _ _ (by kernel_rfl)] at hL
 refine ⟨?_,?_,?_⟩
 · exact tabIs_of_reads (g:=0) (by kernel_rfl) (by kernel_rfl) Tryz.underlying218 Tryz.underlying5 (by kernel_rfl) (by kernel_rfl) (sp_data ▸ Lib.laidMet.reads hL (by simp [laid9]))
 · exact tabIs_of_reads (g:=3) (by kernel_rfl) (by kernel_rfl) Tryz.underlying400 Tryz.underlying146 (by kernel_rfl) (by kernel_rfl) (pow_data ▸ Lib.laidMet.reads hL (by simp [laid9]))
 · exact cell_of_shapedOpen_int (zero:=#[.int .i64 0]) hS (of_decide_eq_true (by kernel_rfl)) (by kernel_rfl) rfl (by kernel_rfl) (by kernel_rfl) Tryz.underlying3
theorem row_own:ownKnob Tryz.prog.godebug=none:=by kernel_rfl
theorem row_laidOut:laidOutB Tryz.prog=true:=by kernel_rfl
end Go.Proofs.YtliimglbbiebiaaGreatDoor
end

