/- A closed fact of the card of TopFull. -/
import Derived.Test.YtliimglbbiebiaaGreatDoorLFull
import Derived.Test.YtliimglbbiebiaaGreatDoorJs4
namespace Go.Proofs.YtliimglbbiebiaaGreatDoor
open Go.RowKit
set_option maxRecDepth 100000
theorem kFull_goes : false = Rows.topFullRow.goesBy Tryz.pinned.checked.prog := by
  have h : (Tryz.prog).funcNamed Rows.topFullRow.func = some 5 := by kernel_rfl
  have g : (Tryz.prog).goes 5 = false := by
    unfold Program.goes
    rw [kFull_closure, js_goes, Bool.and_false]
    rfl
  show false = ((Tryz.prog).goesFrom Rows.topFullRow.func || false)
  unfold Program.goesFrom
  rw [h, Option.any_some, g]
  rfl
end Go.Proofs.YtliimglbbiebiaaGreatDoor
