/- A closed fact of the row of TopPairs. -/
import Derived.Test.YtliimglbbiebiaaGreatDoorRows
import Derived.JoinedOf
import Derived.ProofKit
namespace Go.Proofs.YtliimglbbiebiaaGreatDoor
open Go.ChangeShapes Go.WideShapes Go.ChangeAt Go.RowKit
set_option maxRecDepth 100000
theorem jPairs_inPlace : (Rows.topPairsRow.inPlace == Tryz.prog.inPlace 4) = true := by kernel_rfl
end Go.Proofs.YtliimglbbiebiaaGreatDoor
