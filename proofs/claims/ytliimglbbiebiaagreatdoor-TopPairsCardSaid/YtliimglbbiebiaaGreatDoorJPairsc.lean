/- The closed facts of the row of TopPairs, together. -/
import Derived.Test.YtliimglbbiebiaaGreatDoorJPairs6
import Derived.Test.YtliimglbbiebiaaGreatDoorJPairs7
import Derived.Test.YtliimglbbiebiaaGreatDoorJPairs8
import Derived.Test.YtliimglbbiebiaaGreatDoorJPairs9
import Derived.Test.YtliimglbbiebiaaGreatDoorJPairsr
import Derived.Test.YtliimglbbiebiaaGreatDoorJs1
import Derived.Test.YtliimglbbiebiaaGreatDoorJs2
import Derived.Test.YtliimglbbiebiaaGreatDoorJs3
import Derived.Test.YtliimglbbiebiaaGreatDoorGTopPairsBF
namespace Go.Proofs.YtliimglbbiebiaaGreatDoor
open Go.ChangeShapes Go.WideShapes Go.ChangeAt Go.RowKit
set_option maxRecDepth 100000
theorem jPairs_band {a b : Bool} (ha : a = true) (hb : b = true) : (a && b) = true := by rw [ha, hb]; rfl
theorem jPairs_closed : joinedFacts Tryz.prog 4 Tryz.f4 Rows.topPairsSpec Rows.topPairsRow = true := by
  unfold joinedFacts
  exact (jPairs_band (jPairs_band (jPairs_band (jPairs_band (jPairs_band (jPairs_band (jPairs_band (jPairs_band (jPairs_band (jPairs_band (jPairs_band (jPairs_band (jPairs_band (jPairs_band (jPairs_band (jPairs_band (jPairs_band (jPairs_band (jPairs_band (jPairs_band (jPairs_band (jPairs_band (jPairs_band (jPairs_band (jPairs_band (jPairs_band (jPairs_band (jPairs_band (jPairs_band (jPairs_band (jPairs_band jPairs_wf row_laidOut) js_maps) jPairs_params) jPairs_tie) rfl) js_stops) rfl) js_knobs) jPairs_inPlace) jPairs_unfollowed) jPairs_recurses) jPairs_named) jPairs_maps) jPairs_ifaces) jPairs_mapsOut) jPairs_loops) jPairs_wideKeys) rfl) jPairs_res) jPairs_ifacesOut) jPairs_loopsOut) js_plainKeys) rfl) js_heard) js_enter) jPairs_lifted) jPairs_make) rfl) rfl) jPairs_veiled) jPairs_veiledFits)
theorem jPairs_func : Tryz.prog.funcNamed Rows.topPairsRow.func = some 4 := by kernel_rfl
theorem jPairs_inst : Tryz.f4.isInstance Tryz.prog Rows.topPairsRow.origin Rows.topPairsRow.targs := of_decide_eq_true (by kernel_rfl)
theorem jPairs_wrap : Tryz.f4.isWrapper Tryz.prog Rows.topPairsRow.wrapper Rows.topPairsRow.mainSum := by unfold Func.isWrapper; first | (rw [if_pos (by decide +kernel)]; kernel_rfl) | (rw [if_neg (by decide +kernel)]; exact ⟨rfl, rfl⟩)
end Go.Proofs.YtliimglbbiebiaaGreatDoor
