/- Closed facts of the row of TopPairs. -/
import Derived.Test.YtliimglbbiebiaaGreatDoorRows
import Derived.JoinedOf
import Derived.ProofKit
namespace Go.Proofs.YtliimglbbiebiaaGreatDoor
open Go.ChangeShapes Go.WideShapes Go.ChangeAt Go.RowKit
set_option maxRecDepth 100000
theorem jPairs_wf : Rows.topPairsRow.wf (OpenSpec.ofChange Rows.topPairsSpec) = true := by kernel_rfl
theorem jPairs_params : Tryz.f4.params.all (Tryz.prog.readableRec ·) = true := by kernel_rfl
theorem jPairs_tie : namedTie Tryz.prog Rows.topPairsRow.named Rows.topPairsSpec.vars = true := by kernel_rfl
theorem jPairs_maps : (Rows.topPairsRow.maps == (Tryz.f4.params.toList ++ Rows.topPairsSpec.plain.varTypes Tryz.prog).any (Tryz.prog.mapsRec ·)) = true := by kernel_rfl
theorem jPairs_ifaces : (Rows.topPairsRow.ifaces == (Tryz.f4.params.toList ++ Rows.topPairsSpec.plain.varTypes Tryz.prog).any (Tryz.prog.ifacesRec ·)) = true := by kernel_rfl
theorem jPairs_mapsOut : (Rows.topPairsRow.mapsOut == Tryz.prog.mapsAmong Tryz.f4.resultTypes.toList) = true := by kernel_rfl
theorem jPairs_loops : (Rows.topPairsRow.loops == (Tryz.f4.params.toList ++ Rows.topPairsSpec.plain.varTypes Tryz.prog).any (Tryz.prog.loopsFrom ·)) = true := by kernel_rfl
theorem jPairs_wideKeys : (Rows.topPairsRow.wideKeys == (Tryz.f4.params.toList ++ Rows.topPairsSpec.plain.varTypes Tryz.prog ++ Tryz.f4.resultTypes.toList).any (Tryz.prog.wideKeysFrom ·)) = true := by kernel_rfl
theorem jPairs_res : Tryz.f4.resultTypes.all (fun t => Tryz.prog.readableRec t && decide (t < Tryz.prog.types.size)) = true := by kernel_rfl
theorem jPairs_ifacesOut : (Rows.topPairsRow.ifacesOut == Tryz.f4.resultTypes.toList.any (Tryz.prog.ifacesRec ·)) = true := by kernel_rfl
theorem jPairs_loopsOut : (Rows.topPairsRow.loopsOut == Tryz.f4.resultTypes.toList.any (Tryz.prog.loopsFrom ·)) = true := by kernel_rfl
theorem jPairs_lifted : (Rows.topPairsRow.lifted == Tryz.prog.liftsFinal) = true := by kernel_rfl
theorem jPairs_make : (Tryz.prog.make == some Rows.topPairsRow.make) = true := by kernel_rfl
theorem jPairs_veiled : (Rows.topPairsRow.veiled == (Tryz.f4.params.toList ++ Rows.topPairsSpec.plain.varTypes Tryz.prog ++ Tryz.f4.resultTypes.toList).any (Tryz.prog.veiledRec ·)) = true := by kernel_rfl
theorem jPairs_veiledFits : Rows.topPairsRow.veiledFits Tryz.prog Tryz.f4.params.toList (Tryz.f4.params.toList ++ Rows.topPairsSpec.plain.varTypes Tryz.prog ++ Tryz.f4.resultTypes.toList) = true := by kernel_rfl
end Go.Proofs.YtliimglbbiebiaaGreatDoor
