/- UidSkips: the walk: after Skip, the next identifier is the one that was given, or stays. For all uint32 arguments. -/
import Derived.Test.YtkpfekchcjmjeaaUidAlive
namespace Go.Proofs.Ytkpfekchcjmjeaa
open Go.RowKit

set_option maxHeartbeats 1600000 in
theorem skips_low (to : Int) (w : World) (t0 : 0 ≤ to) (t1 : to ≤ 4294967295) :
    Calls Try.prog 4 #[.int .u32 0, .int .u32 to] w fun e w' => e = .returned (.bool true) ∧ New w w' := by
  rcases Int.lt_or_le 1 to with ht | ht
  · have hd : decide ((1 : Int) < to) = true := by simp; omega
    go_enter Try.func4, Try.ntmps4
    go_wp2_with (go_at_call 9; refine (new_any 0 _ (by omega) (by omega)).mono ?_; rintro e w1 ⟨rfl, hc1, hn1⟩)
    go_wp2_with fail
    refine (skip_yes hc1 to (by omega)).mono ?_
    rintro e w2 ⟨rfl, hc2, hn2⟩
    go_wp2_with fail
    refine (alive_any _).mono ?_
    rintro e w3 ⟨rfl, hn3⟩
    have hc3 : Ctr w3 w.heap.size to 0 (max 0 1) 0 0 := hn3.blk hc2
    go_wp2_with (first
      | (go_at_call 14; refine (next_any hc3).mono ?_; rintro e w4 ⟨rfl, rfl⟩)
      | (go_at_call 15; refine (taken_any hc3).mono ?_; rintro e w4 ⟨rfl, rfl⟩))
    all_goals go_ret
    all_goals exact ⟨rfl, (hn1.one hn2 (Nat.le_refl _)).trans hn3⟩
  · have hd : decide ((1 : Int) < to) = false := by simp; omega
    go_enter Try.func4, Try.ntmps4
    go_wp2_with (go_at_call 9; refine (new_any 0 _ (by omega) (by omega)).mono ?_; rintro e w1 ⟨rfl, hc1, hn1⟩)
    go_wp2_with fail
    refine (skip_no hc1 to (by omega)).mono ?_
    rintro e w2 ⟨rfl, rfl⟩
    go_wp2_with fail
    refine (alive_any _).mono ?_
    rintro e w3 ⟨rfl, hn3⟩
    have hc3 : Ctr w3 w.heap.size 1 0 (max 0 1) 0 0 := hn3.blk hc1
    go_wp2_with (first
      | (go_at_call 14; refine (next_any hc3).mono ?_; rintro e w4 ⟨rfl, rfl⟩)
      | (go_at_call 15; refine (taken_any hc3).mono ?_; rintro e w4 ⟨rfl, rfl⟩))
    all_goals go_ret
    all_goals exact ⟨rfl, hn1.trans hn3⟩

set_option maxHeartbeats 1600000 in
theorem skips_high (next to : Int) (w : World) (h0 : 1 ≤ next) (h1 : next ≤ 4294967295) (t0 : 0 ≤ to) (t1 : to ≤ 4294967295) :
    Calls Try.prog 4 #[.int .u32 next, .int .u32 to] w fun e w' => e = .returned (.bool true) ∧ New w w' := by
  have hm : max next 1 = next := by omega
  have HM := Lib.hid hm
  clear hm
  rcases Int.lt_or_le next to with ht | ht
  · have hd : decide (next < to) = true := by simp; omega
    go_enter Try.func4, Try.ntmps4
    go_wp2_with (go_at_call 9; refine (new_any next _ (by omega) (by omega)).mono ?_; rw [HM.out]; rintro e w1 ⟨rfl, hc1, hn1⟩)
    go_wp2_with fail
    refine (skip_yes hc1 to (by omega)).mono ?_
    rintro e w2 ⟨rfl, hc2, hn2⟩
    go_wp2_with fail
    refine (alive_any _).mono ?_
    rintro e w3 ⟨rfl, hn3⟩
    have hc3 : Ctr w3 w.heap.size to 0 next 0 0 := hn3.blk hc2
    go_wp2_with (first
      | (go_at_call 14; refine (next_any hc3).mono ?_; rintro e w4 ⟨rfl, rfl⟩)
      | (go_at_call 15; refine (taken_any hc3).mono ?_; rintro e w4 ⟨rfl, rfl⟩))
    all_goals go_ret
    all_goals exact ⟨rfl, (hn1.one hn2 (Nat.le_refl _)).trans hn3⟩
  · have hd : decide (next < to) = false := by simp; omega
    go_enter Try.func4, Try.ntmps4
    go_wp2_with (go_at_call 9; refine (new_any next _ (by omega) (by omega)).mono ?_; rw [HM.out]; rintro e w1 ⟨rfl, hc1, hn1⟩)
    go_wp2_with fail
    refine (skip_no hc1 to (by omega)).mono ?_
    rintro e w2 ⟨rfl, rfl⟩
    go_wp2_with fail
    refine (alive_any _).mono ?_
    rintro e w3 ⟨rfl, hn3⟩
    have hc3 : Ctr w3 w.heap.size next 0 next 0 0 := hn3.blk hc1
    go_wp2_with (first
      | (go_at_call 14; refine (next_any hc3).mono ?_; rintro e w4 ⟨rfl, rfl⟩)
      | (go_at_call 15; refine (taken_any hc3).mono ?_; rintro e w4 ⟨rfl, rfl⟩))
    all_goals go_ret
    all_goals exact ⟨rfl, hn1.trans hn3⟩

theorem skips_any (next to : Int) (w : World) (h0 : 0 ≤ next) (h1 : next ≤ 4294967295) (t0 : 0 ≤ to) (t1 : to ≤ 4294967295) :
    Calls Try.prog 4 #[.int .u32 next, .int .u32 to] w fun e w' => e = .returned (.bool true) ∧ New w w' := by
  rcases Int.lt_or_le next 1 with hn | hn
  · obtain rfl : next = 0 := by omega
    exact skips_low to w t0 t1
  · exact skips_high next to w hn h1 t0 t1

end Go.Proofs.Ytkpfekchcjmjeaa
