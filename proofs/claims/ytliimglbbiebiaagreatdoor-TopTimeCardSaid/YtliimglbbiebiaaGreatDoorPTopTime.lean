/- TopTime: in the order of the executed commands each pick adds at most its own session, and the order of a run begins with that of the picks: the law returns true for every input and turns nothing that was there. No conditions. -/
import Derived.Test.YtliimglbbiebiaaGreatDoorLiTime
import Derived.Test.YtliimglbbiebiaaGreatDoorTieT
import Derived.Test.YtliimglbbiebiaaGreatDoorJTimec
import Derived.Test.YtliimglbbiebiaaGreatDoorKTime
import Derived.Test.YtliimglbbiebiaaGreatDoorMTime
set_option maxRecDepth 100000
set_option maxHeartbeats 6400000
namespace Go.Proofs.YtliimglbbiebiaaGreatDoor.topTime
open Go.ChangeShapes Go.WideShapes Go.ChangeAt Go.RowKit
theorem over:Rows.topTimeRow.holds Tryz.pinned (OpenSpec.ofChange Rows.topTimeSpec):=
 OpenClaim.holds_of_wide 3 Tryz.f3 rfl rfl rfl rfl rfl rfl rfl ⟨rfl,rfl,rfl,rfl,rfl⟩ rfl rfl rfl rfl rfl jTime_func Tryz.func3 jTime_closed
  jTime_inst jTime_wrap (fun os started H enc _=>lifted os started H enc)
theorem proved:Rows.TopTimeCardSaid:=
 Claim7.holds_tied_plain_at .later [] [.sentinel,.sentinel,.data,.data,.data,.data,.listed,.pinned,.data] true (true, "65a2c7d0648cdf9069095455b2a07684bfeb3dd6a7e9aa4547f4ffcc87a73442") true
  over (fun _ h=>by cases h) kTime_wf (fun _ h=>by cases h) tieTime rfl ⟨rfl,rfl⟩ kTime_main rfl kTime_look kTime_goes
#print axioms proved
end Go.Proofs.YtliimglbbiebiaaGreatDoor.topTime
