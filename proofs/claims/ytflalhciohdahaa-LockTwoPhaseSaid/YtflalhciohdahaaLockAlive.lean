/- The chapter's example: alive returns true and turns nothing that was there. -/
import Derived.Test.YtflalhciohdahaaLockRel
namespace Go.Proofs.Ytflalhciohdahaa
open Go.RowKit

theorem TFr.new {b bm : Nat} {a w w' : World} (h : New a w) (hf : TFr b bm w w') (hb : a.heap.size ≤ b) (hm : a.heap.size ≤ bm) : New a w' := New.two h hf fun i hi => by rcases hi with rfl | rfl <;> assumption

set_option maxHeartbeats 1600000 in
theorem alive_any (w : World) : Calls Try.prog 9 #[] w fun e w' => e = .returned (.bool true) ∧ New w w' := by
  go_enter Try.func9, Try.ntmps9
  go_wp2_with fail
  refine (lnew_any 5 (by omega) (by omega) _).mono ?_
  rintro e w1 ⟨b, bm, rfl, ht1, hb, hm, hn1⟩
  have ht1' : Tab w1 b bm [-1, -1, -1, -1, -1] 0 := ht1
  go_wp2_with fail
  refine (lacquire_any ht1' (by omega) 1 3 (by decide) (by decide)).mono ?_
  rw [show acqP [-1, -1, -1, -1, -1] 1 3 = 0 by decide, show acqO [-1, -1, -1, -1, -1] 1 3 = [-1, -1, -1, 1, -1] by decide, show acqN [-1, -1, -1, -1, -1] 1 3 = 1 by decide]
  rintro e w2 ⟨rfl, ht2, hf2⟩
  have hn2 := TFr.new hn1 hf2 hb hm
  go_wp2_with fail
  refine (lacquire_any ht2 (by omega) 1 2 (by decide) (by decide)).mono ?_
  rw [show acqP [-1, -1, -1, 1, -1] 1 2 = 10 by decide, show acqO [-1, -1, -1, 1, -1] 1 2 = [-1, -1, -1, 1, -1] by decide, show acqN [-1, -1, -1, 1, -1] 1 2 = 0 by decide]
  rintro e w3 ⟨rfl, ht3, hf3⟩
  have hn3 := TFr.new hn2 hf3 hb hm
  go_wp2_with fail
  refine (lacquire_any ht3 (by omega) 2 3 (by decide) (by decide)).mono ?_
  rw [show acqP [-1, -1, -1, 1, -1] 2 3 = 9 by decide, show acqO [-1, -1, -1, 1, -1] 2 3 = [-1, -1, -1, 1, -1] by decide, show acqN [-1, -1, -1, 1, -1] 2 3 = 0 by decide]
  rintro e w4 ⟨rfl, ht4, hf4⟩
  have hn4 := TFr.new hn3 hf4 hb hm
  go_wp2_with fail
  refine (lrelease_any ht4 1).mono ?_
  rw [show (heldP [-1, -1, -1, 1, -1] 1).length = 1 by decide, show relO [-1, -1, -1, 1, -1] 1 = [-1, -1, -1, -1, -1] by decide]
  rintro e w5 ⟨rfl, ht5, hf5⟩
  have hn5 := TFr.new hn4 hf5 hb hm
  go_wp2_with fail
  refine (lfree_any ht5).mono ?_
  rw [show freeP [-1, -1, -1, -1, -1] = true by decide]
  rintro e w6 ⟨rfl, rfl⟩
  go_wp2_with fail
  refine (lacquired_any ht5).mono ?_
  rintro e w6 ⟨rfl, rfl⟩
  go_wp2
  go_ret
  exact ⟨rfl, hn5⟩

end Go.Proofs.Ytflalhciohdahaa
