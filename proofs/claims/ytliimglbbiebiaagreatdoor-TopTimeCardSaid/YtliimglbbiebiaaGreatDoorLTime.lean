import Derived.Test.YtliimglbbiebiaaGreatDoorCards
import Derived.SevenTiedAt
import Derived.ProofKit
set_option maxRecDepth 100000
set_option maxHeartbeats 6400000
namespace Go.Proofs.YtliimglbbiebiaaGreatDoor
open Go.RowKit
set_option maxRecDepth 100000
theorem kTime_closure:(((Tryz.prog).closure 3).any fun g=>((Tryz.prog).funcs[g]?).any Func.goes)=false:=by kernel_rfl
end Go.Proofs.YtliimglbbiebiaaGreatDoor
