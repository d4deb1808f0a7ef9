/- The library contracts of the sort's (*xorshift).Next and nextPowerOfTwo at this program: the numbers, compared by the kernel. Written by the kit's lay-plain. -/
import Derived.Shelf.SlSortCmp.Xorshift
import Derived.Test.YtmhhmenhfocfjaaProg
namespace Go.Proofs.Ytmhhmenhfocfjaa
open Go.Shelf Go.Proofs
def xsA_ren : Go.Shelf.Ren := ⟨fun | 48 => 52 | n => n, fun | 76 => 80 | 55 => 73 | 0 => 0 | 66 => 74 | 39 => 62 | n => n, fun | n => n⟩
theorem xsA : Go.Proofs.SlLaysF0.n48 Try.prog xsA_ren := {
  mixed := by kernel_rfl
  f48 := Try.func52.trans (congrArg some (by kernel_rfl))
  t0 := Try.underlying0
  a0 := Try.isAgg0
  z0 := Try.sizeOf0
  v0 := Try.zeroValue0
  t39 := Try.underlying62
  a39 := Try.isAgg62
  z39 := Try.sizeOf62
  v39 := Try.zeroValue62
  t55 := Try.underlying73
  a55 := Try.isAgg73
  z55 := Try.sizeOf73
  v55 := Try.zeroValue73
  t66 := Try.underlying74
  a66 := Try.isAgg74
  z66 := Try.sizeOf74
  v66 := Try.zeroValue74
  t76 := Try.underlying80
  a76 := Try.isAgg80
  z76 := Try.sizeOf80
  v76 := Try.zeroValue80 }
def npA_ren : Go.Shelf.Ren := ⟨fun | 47 => 51 | 15 => 38 | 28 => 48 | 29 => 49 | n => n, fun | 3 => 3 | 39 => 62 | 53 => 28 | 55 => 73 | 4 => 4 | 5 => 5 | 9 => 9 | n => n, fun | n => n⟩
theorem npA : Go.Proofs.SlLaysF0.n47 Try.prog npA_ren := {
  mixed := by kernel_rfl
  f15 := Try.func38.trans (congrArg some (by kernel_rfl))
  f28 := Try.func48.trans (congrArg some (by kernel_rfl))
  f29 := Try.func49.trans (congrArg some (by kernel_rfl))
  f47 := Try.func51.trans (congrArg some (by kernel_rfl))
  t3 := Try.underlying3
  a3 := Try.isAgg3
  z3 := Try.sizeOf3
  v3 := Try.zeroValue3
  t4 := Try.underlying4
  a4 := Try.isAgg4
  z4 := Try.sizeOf4
  v4 := Try.zeroValue4
  t5 := Try.underlying5
  a5 := Try.isAgg5
  z5 := Try.sizeOf5
  v5 := Try.zeroValue5
  t9 := Try.underlying9
  a9 := Try.isAgg9
  z9 := Try.sizeOf9
  v9 := Try.zeroValue9
  t39 := Try.underlying62
  a39 := Try.isAgg62
  z39 := Try.sizeOf62
  v39 := Try.zeroValue62
  t53 := Try.underlying28
  a53 := Try.isAgg28
  z53 := Try.sizeOf28
  v53 := Try.zeroValue28
  t55 := Try.underlying73
  a55 := Try.isAgg73
  z55 := Try.sizeOf73
  v55 := Try.zeroValue73 }
end Go.Proofs.Ytmhhmenhfocfjaa
