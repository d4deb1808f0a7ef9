/- A closed fact of the row of TopFull. -/
import Derived.Test.YtliimglbbiebiaaGreatDoorRows
import Derived.JoinedOf
import Derived.ProofKit
namespace Go.Proofs.YtliimglbbiebiaaGreatDoor
open Go.ChangeShapes Go.WideShapes Go.ChangeAt Go.RowKit
set_option maxRecDepth 100000
theorem jFull_unfollowed : (Rows.topFullRow.unfollowed == Tryz.prog.unfollowed 5) = true := by kernel_rfl
end Go.Proofs.YtliimglbbiebiaaGreatDoor
