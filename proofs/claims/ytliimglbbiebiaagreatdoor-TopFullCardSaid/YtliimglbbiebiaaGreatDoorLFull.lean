/- A closed fact of the card of TopFull. -/
import Derived.Test.YtliimglbbiebiaaGreatDoorCards
import Derived.SevenTiedAt
import Derived.ProofKit
namespace Go.Proofs.YtliimglbbiebiaaGreatDoor
open Go.RowKit
set_option maxRecDepth 100000
theorem kFull_closure : (((Tryz.prog).closure 5).any fun g => ((Tryz.prog).funcs[g]?).any Func.goes) = false := by kernel_rfl
end Go.Proofs.YtliimglbbiebiaaGreatDoor
