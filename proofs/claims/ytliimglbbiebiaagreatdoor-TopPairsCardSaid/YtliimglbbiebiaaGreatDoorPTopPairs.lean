/- TopPairs: in the responses to each command of three sessions, a FETCH with a UID names the message that the session's view has at its sequence number: the law returns true for every input and turns nothing that was there. No conditions. -/
import Derived.Test.YtliimglbbiebiaaGreatDoorLiPairs
import Derived.Test.YtliimglbbiebiaaGreatDoorTieP
import Derived.Test.YtliimglbbiebiaaGreatDoorCards
import Derived.Test.YtliimglbbiebiaaGreatDoorJPairsc
import Derived.Test.YtliimglbbiebiaaGreatDoorKPairs
import Derived.Test.YtliimglbbiebiaaGreatDoorMPairs
namespace Go.Proofs.YtliimglbbiebiaaGreatDoor.topPairs
open Go.ChangeShapes Go.WideShapes Go.ChangeAt Go.RowKit

theorem over : Rows.topPairsRow.holds Tryz.pinned (OpenSpec.ofChange Rows.topPairsSpec) :=
  OpenClaim.holds_of_wide 4 Tryz.f4 rfl rfl rfl rfl rfl rfl rfl ⟨rfl, rfl, rfl, rfl, rfl⟩ rfl rfl rfl rfl rfl jPairs_func Tryz.func4 jPairs_closed
    jPairs_inst jPairs_wrap (fun os started H enc _ => lifted os started H enc)

theorem proved : Rows.TopPairsCardSaid :=
  Claim7.holds_tied_plain_at .later [] [.sentinel, .sentinel, .data, .data, .data, .data, .listed, .pinned, .data] true (true, "65a2c7d0648cdf9069095455b2a07684bfeb3dd6a7e9aa4547f4ffcc87a73442") true
    over (fun _ h => by cases h) kPairs_wf (fun _ h => by cases h) tiePairs rfl ⟨rfl, rfl⟩ kPairs_main rfl kPairs_look kPairs_goes
#print axioms proved
end Go.Proofs.YtliimglbbiebiaaGreatDoor.topPairs
