import Derived.Test.YtliimglbbiebiaaGreatDoorJTime6
import Derived.Test.YtliimglbbiebiaaGreatDoorJTime7
import Derived.Test.YtliimglbbiebiaaGreatDoorJTime8
import Derived.Test.YtliimglbbiebiaaGreatDoorJTime9
import Derived.Test.YtliimglbbiebiaaGreatDoorJTimer
import Derived.Test.YtliimglbbiebiaaGreatDoorJs1
import Derived.Test.YtliimglbbiebiaaGreatDoorJs2
import Derived.Test.YtliimglbbiebiaaGreatDoorJs3
import Derived.Test.YtliimglbbiebiaaGreatDoorGTopTimeAN
set_option maxRecDepth 100000
set_option maxHeartbeats 6400000
namespace Go.Proofs.YtliimglbbiebiaaGreatDoor
open Go.ChangeShapes Go.WideShapes Go.ChangeAt Go.RowKit
set_option maxRecDepth 100000
theorem jTime_band{a b:Bool}(ha:a=true) (hb:b=true):(a&&b)=true:=by rw [ha,hb];rfl
theorem jTime_closed:joinedFacts Tryz.prog 3 Tryz.f3 Rows.topTimeSpec Rows.topTimeRow=true:=by
 unfold joinedFacts;exact(jTime_band (jTime_band (jTime_band (jTime_band (jTime_band (jTime_band (jTime_band (jTime_band (jTime_band (jTime_band (jTime_band (jTime_band (jTime_band (jTime_band (jTime_band (jTime_band (jTime_band (jTime_band (jTime_band (jTime_band (jTime_band (jTime_band (jTime_band (jTime_band (jTime_band (jTime_band (jTime_band (jTime_band (jTime_band (jTime_band (jTime_band jTime_wf row_laidOut) js_maps) jTime_params) jTime_tie) rfl) js_stops) rfl) js_knobs) jTime_inPlace) jTime_unfollowed) jTime_recurses) jTime_named) jTime_maps) jTime_ifaces) jTime_mapsOut) jTime_loops) jTime_wideKeys) rfl) jTime_res) jTime_ifacesOut) jTime_loopsOut) js_plainKeys) rfl) js_heard) js_enter) jTime_lifted) jTime_make) rfl) rfl) jTime_veiled) jTime_veiledFits)
theorem jTime_func:Tryz.prog.funcNamed Rows.topTimeRow.func=some 3:=by kernel_rfl
theorem jTime_inst:Tryz.f3.isInstance Tryz.prog Rows.topTimeRow.origin Rows.topTimeRow.targs:=of_decide_eq_true (by kernel_rfl)
theorem jTime_wrap:Tryz.f3.isWrapper Tryz.prog Rows.topTimeRow.wrapper Rows.topTimeRow.mainSum:=by unfold Func.isWrapper;first|(rw [if_pos (by decide +kernel)];kernel_rfl)|(rw [if_neg (by decide +kernel)];exact⟨rfl,rfl⟩)
end Go.Proofs.YtliimglbbiebiaaGreatDoor
