/- A closed fact of the card of TopPairs. -/
import Derived.Test.YtliimglbbiebiaaGreatDoorLPairs
import Derived.Test.YtliimglbbiebiaaGreatDoorJs4
namespace Go.Proofs.YtliimglbbiebiaaGreatDoor
open Go.RowKit
set_option maxRecDepth 100000
theorem kPairs_goes : false = Rows.topPairsRow.goesBy Tryz.pinned.checked.prog := by
  have h : (Tryz.prog).funcNamed Rows.topPairsRow.func = some 4 := by kernel_rfl
  have g : (Tryz.prog).goes 4 = false := by
    unfold Program.goes
    rw [kPairs_closure, js_goes, Bool.and_false]
    rfl
  show false = ((Tryz.prog).goesFrom Rows.topPairsRow.func || false)
  unfold Program.goesFrom
  rw [h, Option.any_some, g]
  rfl
end Go.Proofs.YtliimglbbiebiaaGreatDoor
