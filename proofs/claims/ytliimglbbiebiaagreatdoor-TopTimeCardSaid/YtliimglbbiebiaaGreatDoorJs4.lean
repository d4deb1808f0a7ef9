import Derived.Test.YtliimglbbiebiaaGreatDoorRows
import GoSem.ClaimSeven
import Derived.ProofKit
set_option maxRecDepth 100000
set_option maxHeartbeats 6400000
namespace Go.Proofs.YtliimglbbiebiaaGreatDoor
open Go.RowKit
set_option maxRecDepth 100000
theorem js_goes:(Tryz.prog).funcs.any Func.goes=false:=by kernel_rfl
end Go.Proofs.YtliimglbbiebiaaGreatDoor
