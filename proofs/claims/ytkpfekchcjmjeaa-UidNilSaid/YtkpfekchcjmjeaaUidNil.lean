/- UidNil: the walk: a nil counter gives no identifiers; two counters are independent of each other. For every uint32 argument. -/
import Derived.Test.YtkpfekchcjmjeaaUidValid
namespace Go.Proofs.Ytkpfekchcjmjeaa
open Go.RowKit

set_option maxHeartbeats 1600000 in
theorem nil_high (next : Int) (w : World) (h0 : 1 ≤ next) (h1 : next ≤ 4294967295) :
    Calls Try.prog 8 #[.int .u32 next] w fun e w' => e = .returned (.bool true) ∧ New w w' := by
  have hm : max next 1 = next := by omega
  have HM := Lib.hid hm
  clear hm
  have hnot := hnot
  go_enter Try.func8, Try.ntmps8
  go_wp2_with fail
  refine (new_any next _ (by omega) (by omega)).mono ?_
  rw [HM.out]
  rintro e w1 ⟨rfl, hc1, hn1⟩
  go_wp2_with fail
  refine (new_any next _ (by omega) (by omega)).mono ?_
  rw [HM.out]
  rintro e w2 ⟨rfl, hc2, hn2⟩
  have hd2 : Ctr w2 w.heap.size next 0 next 0 0 := hn2.blk hc1
  have hlt := Blk.lt hc1
  go_wp2_with fail
  refine (take_some hd2 (by omega) (by omega) (by omega) (by omega)).mono ?_
  rintro e w3 ⟨⟨x, c, rfl⟩, _, ho3⟩
  have hc3 : Ctr w3 w1.heap.size next 0 next 0 0 := ho3.blk hc2 (by omega)
  go_wp2_with fail
  refine (take_nil _).mono ?_
  rintro e w4 ⟨rfl, rfl⟩
  go_wp2_with fail
  refine (alive_any _).mono ?_
  rintro e w5 ⟨rfl, hn5⟩
  have hc5 : Ctr w5 w1.heap.size next 0 next 0 0 := hn5.blk hc3
  go_wp2_with fail
  refine (next_nil _).mono ?_
  rintro e w6 ⟨rfl, rfl⟩
  go_wp2_with (first
    | (go_at_call 12; refine (left_nil _).mono ?_; rintro e w6 ⟨rfl, rfl⟩)
    | (go_at_call 15; refine (taken_nil _).mono ?_; rintro e w6 ⟨rfl, rfl⟩))
  refine (validity_nil _).mono ?_
  rintro e w7 ⟨rfl, hn7⟩
  have hc7 : Ctr w7 w1.heap.size next 0 next 0 0 := hn7.blk hc5
  go_wp2_with fail
  refine (skip_nil _ _).mono ?_
  rintro e w6 ⟨rfl, rfl⟩
  go_wp2_with fail
  refine (next_any hc7).mono ?_
  rintro e w6 ⟨rfl, rfl⟩
  go_wp2
  go_ret
  exact ⟨rfl, (((New.one (hn1.trans hn2) ho3 (Nat.le_refl _)).trans hn5).trans hn7)⟩

set_option maxHeartbeats 1600000 in
theorem nil_low (w : World) :
    Calls Try.prog 8 #[.int .u32 0] w fun e w' => e = .returned (.bool true) ∧ New w w' := by
  have hm : max (0 : Int) 1 = 1 := by omega
  have HM := Lib.hid hm
  clear hm
  have hnot := hnot
  go_enter Try.func8, Try.ntmps8
  go_wp2_with fail
  refine (new_any 0 _ (by omega) (by omega)).mono ?_
  rw [HM.out]
  rintro e w1 ⟨rfl, hc1, hn1⟩
  go_wp2_with fail
  refine (new_any 0 _ (by omega) (by omega)).mono ?_
  rw [HM.out]
  rintro e w2 ⟨rfl, hc2, hn2⟩
  have hd2 : Ctr w2 w.heap.size 1 0 1 0 0 := hn2.blk hc1
  have hlt := Blk.lt hc1
  go_wp2_with fail
  refine (take_some hd2 (by omega) (by omega) (by omega) (by omega)).mono ?_
  rintro e w3 ⟨⟨x, c, rfl⟩, _, ho3⟩
  have hc3 : Ctr w3 w1.heap.size 1 0 1 0 0 := ho3.blk hc2 (by omega)
  go_wp2_with fail
  refine (take_nil _).mono ?_
  rintro e w4 ⟨rfl, rfl⟩
  go_wp2_with fail
  refine (alive_any _).mono ?_
  rintro e w5 ⟨rfl, hn5⟩
  have hc5 : Ctr w5 w1.heap.size 1 0 1 0 0 := hn5.blk hc3
  go_wp2_with fail
  refine (next_nil _).mono ?_
  rintro e w6 ⟨rfl, rfl⟩
  go_wp2_with (first
    | (go_at_call 12; refine (left_nil _).mono ?_; rintro e w6 ⟨rfl, rfl⟩)
    | (go_at_call 15; refine (taken_nil _).mono ?_; rintro e w6 ⟨rfl, rfl⟩))
  refine (validity_nil _).mono ?_
  rintro e w7 ⟨rfl, hn7⟩
  have hc7 : Ctr w7 w1.heap.size 1 0 1 0 0 := hn7.blk hc5
  go_wp2_with fail
  refine (skip_nil _ _).mono ?_
  rintro e w6 ⟨rfl, rfl⟩
  go_wp2_with fail
  refine (next_any hc7).mono ?_
  rintro e w6 ⟨rfl, rfl⟩
  go_wp2
  go_ret
  exact ⟨rfl, (((New.one (hn1.trans hn2) ho3 (Nat.le_refl _)).trans hn5).trans hn7)⟩

theorem nil_any (next : Int) (w : World) (h0 : 0 ≤ next) (h1 : next ≤ 4294967295) :
    Calls Try.prog 8 #[.int .u32 next] w fun e w' => e = .returned (.bool true) ∧ New w w' := by
  rcases Int.lt_or_le next 1 with hn | hn
  · obtain rfl : next = 0 := by omega
    exact nil_low w
  · exact nil_high next w hn h1

end Go.Proofs.Ytkpfekchcjmjeaa
