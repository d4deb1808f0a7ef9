import Derived.Test.YtliimglbbiebiaaGreatDoorLTime
import Derived.Test.YtliimglbbiebiaaGreatDoorJs4
set_option maxRecDepth 100000
set_option maxHeartbeats 6400000
namespace Go.Proofs.YtliimglbbiebiaaGreatDoor
open Go.RowKit
set_option maxRecDepth 100000
theorem kTime_goes:false=Rows.topTimeRow.goesBy Tryz.pinned.checked.prog:=by
 have h:(Tryz.prog).funcNamed Rows.topTimeRow.func=some 3:=by kernel_rfl
 have g:(Tryz.prog).goes 3=false:=by
  unfold Program.goes;rw [kTime_closure,js_goes,Bool.and_false];rfl
 show false=((Tryz.prog).goesFrom Rows.topTimeRow.func||false)
 unfold Program.goesFrom;rw [h,Option.any_some,g];rfl
end Go.Proofs.YtliimglbbiebiaaGreatDoor
