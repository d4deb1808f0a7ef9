/- TopFull: APPEND to a mailbox with as many messages as its capacity, or whose next identifier is the greatest number, answers NO and changes nothing: the law returns true for every input and turns nothing that was there. No conditions. -/
import Derived.Test.YtliimglbbiebiaaGreatDoorLiFull
import Derived.Test.YtliimglbbiebiaaGreatDoorTieE
import Derived.Test.YtliimglbbiebiaaGreatDoorCards
import Derived.Test.YtliimglbbiebiaaGreatDoorJFullc
import Derived.Test.YtliimglbbiebiaaGreatDoorKFull
import Derived.Test.YtliimglbbiebiaaGreatDoorMFull
namespace Go.Proofs.YtliimglbbiebiaaGreatDoor.topFull
open Go.ChangeShapes Go.WideShapes Go.ChangeAt Go.RowKit

theorem over : Rows.topFullRow.holds Tryz.pinned (OpenSpec.ofChange Rows.topFullSpec) :=
  OpenClaim.holds_of_wide 5 Tryz.f5 rfl rfl rfl rfl rfl rfl rfl ⟨rfl, rfl, rfl, rfl, rfl⟩ rfl rfl rfl rfl rfl jFull_func Tryz.func5 jFull_closed
    jFull_inst jFull_wrap (fun os started H enc _ => lifted os started H enc)

theorem proved : Rows.TopFullCardSaid :=
  Claim7.holds_tied_plain_at .later [] [.sentinel, .sentinel, .data, .data, .data, .data, .listed, .pinned, .data] true (true, "65a2c7d0648cdf9069095455b2a07684bfeb3dd6a7e9aa4547f4ffcc87a73442") true
    over (fun _ h => by cases h) kFull_wf (fun _ h => by cases h) tieFull rfl ⟨rfl, rfl⟩ kFull_main rfl kFull_look kFull_goes
#print axioms proved
end Go.Proofs.YtliimglbbiebiaaGreatDoor.topFull
