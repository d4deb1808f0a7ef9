import Derived.Test.YtliimglbbiebiaaGreatDoorTieA
import Derived.LaidByTextLater
import Derived.SevenTiedAt
import Derived.LaidSub
import Derived.LaidOnce
set_option maxRecDepth 100000
set_option maxHeartbeats 6400000
namespace Go.Proofs.YtliimglbbiebiaaGreatDoor
open Go
set_option maxRecDepth 100000
theorem tie_f5:varsNamedLaterB Tryz.prog (varsId Tryz.prog) tieL=true:=by kernel_rfl
end Go.Proofs.YtliimglbbiebiaaGreatDoor
