/- The closed facts of the row of TopFull, together. -/
import Derived.Test.YtliimglbbiebiaaGreatDoorJFull6
import Derived.Test.YtliimglbbiebiaaGreatDoorJFull7
import Derived.Test.YtliimglbbiebiaaGreatDoorJFull8
import Derived.Test.YtliimglbbiebiaaGreatDoorJFull9
import Derived.Test.YtliimglbbiebiaaGreatDoorJFullr
import Derived.Test.YtliimglbbiebiaaGreatDoorJs1
import Derived.Test.YtliimglbbiebiaaGreatDoorJs2
import Derived.Test.YtliimglbbiebiaaGreatDoorJs3
import Derived.Test.YtliimglbbiebiaaGreatDoorGTopFullBE
namespace Go.Proofs.YtliimglbbiebiaaGreatDoor
open Go.ChangeShapes Go.WideShapes Go.ChangeAt Go.RowKit
set_option maxRecDepth 100000
theorem jFull_band {a b : Bool} (ha : a = true) (hb : b = true) : (a && b) = true := by rw [ha, hb]; rfl
theorem jFull_closed : joinedFacts Tryz.prog 5 Tryz.f5 Rows.topFullSpec Rows.topFullRow = true := by
  unfold joinedFacts
  exact (jFull_band (jFull_band (jFull_band (jFull_band (jFull_band (jFull_band (jFull_band (jFull_band (jFull_band (jFull_band (jFull_band (jFull_band (jFull_band (jFull_band (jFull_band (jFull_band (jFull_band (jFull_band (jFull_band (jFull_band (jFull_band (jFull_band (jFull_band (jFull_band (jFull_band (jFull_band (jFull_band (jFull_band (jFull_band (jFull_band (jFull_band jFull_wf row_laidOut) js_maps) jFull_params) jFull_tie) rfl) js_stops) rfl) js_knobs) jFull_inPlace) jFull_unfollowed) jFull_recurses) jFull_named) jFull_maps) jFull_ifaces) jFull_mapsOut) jFull_loops) jFull_wideKeys) rfl) jFull_res) jFull_ifacesOut) jFull_loopsOut) js_plainKeys) rfl) js_heard) js_enter) jFull_lifted) jFull_make) rfl) rfl) jFull_veiled) jFull_veiledFits)
theorem jFull_func : Tryz.prog.funcNamed Rows.topFullRow.func = some 5 := by kernel_rfl
theorem jFull_inst : Tryz.f5.isInstance Tryz.prog Rows.topFullRow.origin Rows.topFullRow.targs := of_decide_eq_true (by kernel_rfl)
theorem jFull_wrap : Tryz.f5.isWrapper Tryz.prog Rows.topFullRow.wrapper Rows.topFullRow.mainSum := by unfold Func.isWrapper; first | (rw [if_pos (by decide +kernel)]; kernel_rfl) | (rw [if_neg (by decide +kernel)]; exact ⟨rfl, rfl⟩)
end Go.Proofs.YtliimglbbiebiaaGreatDoor
