/- A closed fact of the card of TopPairs. -/
import Derived.Test.YtliimglbbiebiaaGreatDoorCards
import Derived.SevenTiedAt
import Derived.ProofKit
namespace Go.Proofs.YtliimglbbiebiaaGreatDoor
open Go.RowKit
set_option maxRecDepth 100000
theorem kPairs_closure : (((Tryz.prog).closure 4).any fun g => ((Tryz.prog).funcs[g]?).any Func.goes) = false := by kernel_rfl
end Go.Proofs.YtliimglbbiebiaaGreatDoor
