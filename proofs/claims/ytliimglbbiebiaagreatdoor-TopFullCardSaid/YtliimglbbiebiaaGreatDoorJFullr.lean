/- Closed facts of the row of TopFull. -/
import Derived.Test.YtliimglbbiebiaaGreatDoorRows
import Derived.JoinedOf
import Derived.ProofKit
namespace Go.Proofs.YtliimglbbiebiaaGreatDoor
open Go.ChangeShapes Go.WideShapes Go.ChangeAt Go.RowKit
set_option maxRecDepth 100000
theorem jFull_wf : Rows.topFullRow.wf (OpenSpec.ofChange Rows.topFullSpec) = true := by kernel_rfl
theorem jFull_params : Tryz.f5.params.all (Tryz.prog.readableRec ·) = true := by kernel_rfl
theorem jFull_tie : namedTie Tryz.prog Rows.topFullRow.named Rows.topFullSpec.vars = true := by kernel_rfl
theorem jFull_maps : (Rows.topFullRow.maps == (Tryz.f5.params.toList ++ Rows.topFullSpec.plain.varTypes Tryz.prog).any (Tryz.prog.mapsRec ·)) = true := by kernel_rfl
theorem jFull_ifaces : (Rows.topFullRow.ifaces == (Tryz.f5.params.toList ++ Rows.topFullSpec.plain.varTypes Tryz.prog).any (Tryz.prog.ifacesRec ·)) = true := by kernel_rfl
theorem jFull_mapsOut : (Rows.topFullRow.mapsOut == Tryz.prog.mapsAmong Tryz.f5.resultTypes.toList) = true := by kernel_rfl
theorem jFull_loops : (Rows.topFullRow.loops == (Tryz.f5.params.toList ++ Rows.topFullSpec.plain.varTypes Tryz.prog).any (Tryz.prog.loopsFrom ·)) = true := by kernel_rfl
theorem jFull_wideKeys : (Rows.topFullRow.wideKeys == (Tryz.f5.params.toList ++ Rows.topFullSpec.plain.varTypes Tryz.prog ++ Tryz.f5.resultTypes.toList).any (Tryz.prog.wideKeysFrom ·)) = true := by kernel_rfl
theorem jFull_res : Tryz.f5.resultTypes.all (fun t => Tryz.prog.readableRec t && decide (t < Tryz.prog.types.size)) = true := by kernel_rfl
theorem jFull_ifacesOut : (Rows.topFullRow.ifacesOut == Tryz.f5.resultTypes.toList.any (Tryz.prog.ifacesRec ·)) = true := by kernel_rfl
theorem jFull_loopsOut : (Rows.topFullRow.loopsOut == Tryz.f5.resultTypes.toList.any (Tryz.prog.loopsFrom ·)) = true := by kernel_rfl
theorem jFull_lifted : (Rows.topFullRow.lifted == Tryz.prog.liftsFinal) = true := by kernel_rfl
theorem jFull_make : (Tryz.prog.make == some Rows.topFullRow.make) = true := by kernel_rfl
theorem jFull_veiled : (Rows.topFullRow.veiled == (Tryz.f5.params.toList ++ Rows.topFullSpec.plain.varTypes Tryz.prog ++ Tryz.f5.resultTypes.toList).any (Tryz.prog.veiledRec ·)) = true := by kernel_rfl
theorem jFull_veiledFits : Rows.topFullRow.veiledFits Tryz.prog Tryz.f5.params.toList (Tryz.f5.params.toList ++ Rows.topFullSpec.plain.varTypes Tryz.prog ++ Tryz.f5.resultTypes.toList) = true := by kernel_rfl
end Go.Proofs.YtliimglbbiebiaaGreatDoor
