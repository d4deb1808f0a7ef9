/- Closed facts of the card of TopFull. -/
import Derived.Test.YtliimglbbiebiaaGreatDoorCards
import Derived.Test.YtliimglbbiebiaaGreatDoorGTopFullBE
import Derived.SevenTiedAt
namespace Go.Proofs.YtliimglbbiebiaaGreatDoor
open Go.ChangeShapes Go.WideShapes Go.ChangeAt Go.RowKit
set_option maxRecDepth 100000
theorem kFull_wf : Rows.topFullRow.wfByText (OpenSpec.ofChange Rows.topFullSpec) = true := by kernel_rfl
theorem kFull_main : Tryz.pinned.checked.prog.mainIs = some (true, "65a2c7d0648cdf9069095455b2a07684bfeb3dd6a7e9aa4547f4ffcc87a73442".toList) := by kernel_rfl
theorem kFull_look : ∀ f fn, Tryz.pinned.checked.prog.funcNamed Rows.topFullRow.func = some f → Tryz.pinned.checked.prog.funcs[f]? = some fn → true = Tryz.pinned.checked.prog.looks [] ∧ ∀ (j : Nat) t, fn.params[j]? = some t → Tryz.pinned.checked.prog.wantsStandIn t = false := by
  intro f fn hf hfn
  obtain rfl : f = 5 := Option.some.inj ((show Tryz.prog.funcNamed "cubbyhole/cubbyholetop.TopFull" = some 5 by kernel_rfl).symm.trans hf) |>.symm
  obtain rfl : fn = Tryz.f5 := (Option.some.inj (Tryz.func5.symm.trans hfn)).symm
  exact ⟨by kernel_rfl, fun j t ht => by
    rw [Tryz.params5] at ht
    have hm : t ∈ [5, 5, 23] := by simpa using Array.mem_of_getElem? ht
    have hall : ([5, 5, 23].all fun u => !Tryz.prog.wantsStandIn u) = true := by kernel_rfl
    exact (show Tryz.prog.wantsStandIn t = false by simpa using List.all_eq_true.1 hall t hm)⟩
end Go.Proofs.YtliimglbbiebiaaGreatDoor
