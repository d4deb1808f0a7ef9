/- The library contracts of the sort's (*xorshift).Next and nextPowerOfTwo at this program: the numbers, compared by the kernel. Written by the kit's lay-plain. -/
import Derived.Shelf.SlSortCmp.Xorshift
import Derived.Test.YtjnaihhkbbeaoaaProg
namespace Go.Proofs.Ytjnaihhkbbeaoaa
open Go.Shelf Go.Proofs
def xsA_ren : Go.Shelf.Ren := ⟨fun | 48 => 73 | n => n, fun | 76 => 126 | 55 => 27 | 0 => 0 | 66 => 114 | 39 => 89 | n => n, fun | n => n⟩
theorem xsA : Go.Proofs.SlLaysF0.n48 Try.prog xsA_ren := {
  mixed := by kernel_rfl
  f48 := Try.func73.trans (congrArg some (by kernel_rfl))
  t0 := Try.underlying0
  a0 := Try.isAgg0
  z0 := Try.sizeOf0
  v0 := Try.zeroValue0
  t39 := Try.underlying89
  a39 := Try.isAgg89
  z39 := Try.sizeOf89
  v39 := Try.zeroValue89
  t55 := Try.underlying27
  a55 := Try.isAgg27
  z55 := Try.sizeOf27
  v55 := Try.zeroValue27
  t66 := Try.underlying114
  a66 := Try.isAgg114
  z66 := Try.sizeOf114
  v66 := Try.zeroValue114
  t76 := Try.underlying126
  a76 := Try.isAgg126
  z76 := Try.sizeOf126
  v76 := Try.zeroValue126 }
def npA_ren : Go.Shelf.Ren := ⟨fun | 47 => 72 | 15 => 45 | 28 => 61 | 29 => 62 | n => n, fun | 3 => 3 | 39 => 89 | 53 => 22 | 55 => 27 | 4 => 4 | 5 => 5 | 9 => 9 | n => n, fun | n => n⟩
theorem npA : Go.Proofs.SlLaysF0.n47 Try.prog npA_ren := {
  mixed := by kernel_rfl
  f15 := Try.func45.trans (congrArg some (by kernel_rfl))
  f28 := Try.func61.trans (congrArg some (by kernel_rfl))
  f29 := Try.func62.trans (congrArg some (by kernel_rfl))
  f47 := Try.func72.trans (congrArg some (by kernel_rfl))
  t3 := Try.underlying3
  a3 := Try.isAgg3
  z3 := Try.sizeOf3
  v3 := Try.zeroValue3
  t4 := Try.underlying4
  a4 := Try.isAgg4
  z4 := Try.sizeOf4
  v4 := Try.zeroValue4
  t5 := Try.underlying5
  a5 := Try.isAgg5
  z5 := Try.sizeOf5
  v5 := Try.zeroValue5
  t9 := Try.underlying9
  a9 := Try.isAgg9
  z9 := Try.sizeOf9
  v9 := Try.zeroValue9
  t39 := Try.underlying89
  a39 := Try.isAgg89
  z39 := Try.sizeOf89
  v39 := Try.zeroValue89
  t53 := Try.underlying22
  a53 := Try.isAgg22
  z53 := Try.sizeOf22
  v53 := Try.zeroValue22
  t55 := Try.underlying27
  a55 := Try.isAgg27
  z55 := Try.sizeOf27
  v55 := Try.zeroValue27 }
end Go.Proofs.Ytjnaihhkbbeaoaa
