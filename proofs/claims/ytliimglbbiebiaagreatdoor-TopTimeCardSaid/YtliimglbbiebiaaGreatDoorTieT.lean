import Derived.Test.YtliimglbbiebiaaGreatDoorTieD
import Derived.LaidByTextLater
import Derived.SevenTiedAt
import Derived.LaidSub
import Derived.LaidOnce
set_option maxRecDepth 100000
set_option maxHeartbeats 6400000
namespace Go.Proofs.YtliimglbbiebiaaGreatDoor
open Go
set_option maxRecDepth 100000
theorem tieTime:Rows.topTimeRow.laidByTextAt .later Tryz.pinned [.sentinel,.sentinel,.data,.data,.data,.data,.listed,.pinned,.data] true:=
 OpenClaim.laidByTextAt_pinned rfl rfl tie_all rfl rfl rfl rfl (fun y hy _e=>by
  simp only [Rows.topTimeRow,List.zip_cons_cons,List.zip_nil_right,List.mem_cons,List.mem_nil_iff,or_false]at hy;rcases hy with rfl|rfl|rfl|rfl|rfl|rfl|rfl|rfl|rfl
  ·cases _e
  ·cases _e
  ·cases _e
  ·cases _e
  ·cases _e
  ·cases _e
  ·cases _e
  ·exact⟨tie_pin,by kernel_rfl⟩
  ·cases _e) tie_fits
end Go.Proofs.YtliimglbbiebiaaGreatDoor
