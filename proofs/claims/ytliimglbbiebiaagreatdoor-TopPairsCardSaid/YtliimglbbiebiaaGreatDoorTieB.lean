/- The tie of the program's laid variables: part B. -/
import Derived.Test.YtliimglbbiebiaaGreatDoorTieA
import Derived.LaidByTextLater
import Derived.SevenTiedAt
import Derived.LaidSub
import Derived.LaidOnce
namespace Go.Proofs.YtliimglbbiebiaaGreatDoor
open Go
set_option maxRecDepth 100000
theorem tie_f5 : varsNamedLaterB Tryz.prog (varsId Tryz.prog) tieL = true := by kernel_rfl
end Go.Proofs.YtliimglbbiebiaaGreatDoor
