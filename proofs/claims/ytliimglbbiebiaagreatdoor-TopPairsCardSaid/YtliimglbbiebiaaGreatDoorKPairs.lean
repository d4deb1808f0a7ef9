/- Closed facts of the card of TopPairs. -/
import Derived.Test.YtliimglbbiebiaaGreatDoorCards
import Derived.Test.YtliimglbbiebiaaGreatDoorGTopPairsBF
import Derived.SevenTiedAt
namespace Go.Proofs.YtliimglbbiebiaaGreatDoor
open Go.ChangeShapes Go.WideShapes Go.ChangeAt Go.RowKit
set_option maxRecDepth 100000
theorem kPairs_wf : Rows.topPairsRow.wfByText (OpenSpec.ofChange Rows.topPairsSpec) = true := by kernel_rfl
theorem kPairs_main : Tryz.pinned.checked.prog.mainIs = some (true, "65a2c7d0648cdf9069095455b2a07684bfeb3dd6a7e9aa4547f4ffcc87a73442".toList) := by kernel_rfl
theorem kPairs_look : ∀ f fn, Tryz.pinned.checked.prog.funcNamed Rows.topPairsRow.func = some f → Tryz.pinned.checked.prog.funcs[f]? = some fn → true = Tryz.pinned.checked.prog.looks [] ∧ ∀ (j : Nat) t, fn.params[j]? = some t → Tryz.pinned.checked.prog.wantsStandIn t = false := by
  intro f fn hf hfn
  obtain rfl : f = 4 := Option.some.inj ((show Tryz.prog.funcNamed "cubbyhole/cubbyholetop.TopPairs" = some 4 by kernel_rfl).symm.trans hf) |>.symm
  obtain rfl : fn = Tryz.f4 := (Option.some.inj (Tryz.func4.symm.trans hfn)).symm
  exact ⟨by kernel_rfl, fun j t ht => by
    rw [Tryz.params4] at ht
    have hm : t ∈ [37] := by simpa using Array.mem_of_getElem? ht
    have hall : ([37].all fun u => !Tryz.prog.wantsStandIn u) = true := by kernel_rfl
    exact (show Tryz.prog.wantsStandIn t = false by simpa using List.all_eq_true.1 hall t hm)⟩
end Go.Proofs.YtliimglbbiebiaaGreatDoor
