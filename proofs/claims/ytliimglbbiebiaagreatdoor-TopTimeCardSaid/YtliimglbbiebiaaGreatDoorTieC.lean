import Derived.Test.YtliimglbbiebiaaGreatDoorTieA
import Derived.LaidByTextLater
import Derived.SevenTiedAt
import Derived.LaidSub
import Derived.LaidOnce
set_option maxRecDepth 100000
set_option maxHeartbeats 6400000
namespace Go.Proofs.YtliimglbbiebiaaGreatDoor
open Go
set_option maxRecDepth 100000
theorem tie_f9:∀os tape,doorLeaves Tryz.prog 400 8 1000 tieL os tape=some (tieL.filter fun x=>x.2.handleName?.isNone,(funcsListed tieL).map (·.2.funcsOut)):=fun _ _=>by kernel_rfl
end Go.Proofs.YtliimglbbiebiaaGreatDoor
