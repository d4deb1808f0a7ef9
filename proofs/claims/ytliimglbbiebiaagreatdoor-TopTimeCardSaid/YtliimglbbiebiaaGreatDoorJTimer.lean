import Derived.Test.YtliimglbbiebiaaGreatDoorRows
import Derived.JoinedOf
import Derived.ProofKit
set_option maxRecDepth 100000
set_option maxHeartbeats 6400000
namespace Go.Proofs.YtliimglbbiebiaaGreatDoor
open Go.ChangeShapes Go.WideShapes Go.ChangeAt Go.RowKit
set_option maxRecDepth 100000
theorem jTime_wf:Rows.topTimeRow.wf (OpenSpec.ofChange Rows.topTimeSpec)=true:=by kernel_rfl
theorem jTime_params:Tryz.f3.params.all (Tryz.prog.readableRec ·)=true:=by kernel_rfl
theorem jTime_tie:namedTie Tryz.prog Rows.topTimeRow.named Rows.topTimeSpec.vars=true:=by kernel_rfl
theorem jTime_maps:(Rows.topTimeRow.maps==(Tryz.f3.params.toList++Rows.topTimeSpec.plain.varTypes Tryz.prog).any (Tryz.prog.mapsRec ·))=true:=by kernel_rfl
theorem jTime_ifaces:(Rows.topTimeRow.ifaces==(Tryz.f3.params.toList++Rows.topTimeSpec.plain.varTypes Tryz.prog).any (Tryz.prog.ifacesRec ·))=true:=by kernel_rfl
theorem jTime_mapsOut:(Rows.topTimeRow.mapsOut==Tryz.prog.mapsAmong Tryz.f3.resultTypes.toList)=true:=by kernel_rfl
theorem jTime_loops:(Rows.topTimeRow.loops==(Tryz.f3.params.toList++Rows.topTimeSpec.plain.varTypes Tryz.prog).any (Tryz.prog.loopsFrom ·))=true:=by kernel_rfl
theorem jTime_wideKeys:(Rows.topTimeRow.wideKeys==(Tryz.f3.params.toList++Rows.topTimeSpec.plain.varTypes Tryz.prog++Tryz.f3.resultTypes.toList).any (Tryz.prog.wideKeysFrom ·))=true:=by kernel_rfl
theorem jTime_res:Tryz.f3.resultTypes.all (fun t=>Tryz.prog.readableRec t&&decide (t<Tryz.prog.types.size))=true:=by kernel_rfl
theorem jTime_ifacesOut:(Rows.topTimeRow.ifacesOut==Tryz.f3.resultTypes.toList.any (Tryz.prog.ifacesRec ·))=true:=by kernel_rfl
theorem jTime_loopsOut:(Rows.topTimeRow.loopsOut==Tryz.f3.resultTypes.toList.any (Tryz.prog.loopsFrom ·))=true:=by kernel_rfl
theorem jTime_lifted:(Rows.topTimeRow.lifted==Tryz.prog.liftsFinal)=true:=by kernel_rfl
theorem jTime_make:(Tryz.prog.make==some Rows.topTimeRow.make)=true:=by kernel_rfl
theorem jTime_veiled:(Rows.topTimeRow.veiled==(Tryz.f3.params.toList++Rows.topTimeSpec.plain.varTypes Tryz.prog++Tryz.f3.resultTypes.toList).any (Tryz.prog.veiledRec ·))=true:=by kernel_rfl
theorem jTime_veiledFits:Rows.topTimeRow.veiledFits Tryz.prog Tryz.f3.params.toList (Tryz.f3.params.toList++Rows.topTimeSpec.plain.varTypes Tryz.prog++Tryz.f3.resultTypes.toList)=true:=by kernel_rfl
end Go.Proofs.YtliimglbbiebiaaGreatDoor
