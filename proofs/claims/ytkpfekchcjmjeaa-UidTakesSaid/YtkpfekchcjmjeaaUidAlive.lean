/- The chapter's example: alive returns true and turns nothing that was there. -/
import Derived.Test.YtkpfekchcjmjeaaUid
namespace Go.Proofs.Ytkpfekchcjmjeaa
open Go.RowKit

set_option maxHeartbeats 800000 in
theorem alive_any (w : World) : Calls Try.prog 11 #[] w fun e w' => e = .returned (.bool true) ∧ New w w' := by
  go_enter Try.func11, Try.ntmps11
  go_wp2_with (go_at_call 9; refine (new_any 4294967294 _ (by omega) (by omega)).mono ?_; rintro e w1 ⟨rfl, hc1, hn1⟩)
  go_wp2_with fail
  refine (take_ok hc1 (by omega) (by omega) (by omega) (by omega)).mono ?_
  rintro e w2 ⟨rfl, hc2, hn2⟩
  go_wp2_with fail
  refine (take_full hc2 (by omega)).mono ?_
  rintro e w3 ⟨rfl, rfl⟩
  go_wp2
  go_ret
  exact ⟨rfl, hn1.one hn2 (Nat.le_refl _)⟩

end Go.Proofs.Ytkpfekchcjmjeaa
