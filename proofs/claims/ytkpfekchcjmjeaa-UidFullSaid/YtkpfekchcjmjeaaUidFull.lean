/- UidFull: the walk: a counter without identifiers left gives none, and does not change. For every uint8 argument. -/
import Derived.Test.YtkpfekchcjmjeaaUidAlive
namespace Go.Proofs.Ytkpfekchcjmjeaa
open Go.RowKit

set_option maxHeartbeats 1600000 in
theorem full_any (n : Int) (w : World) (n0 : 0 ≤ n) (n1 : n ≤ 255) :
    Calls Try.prog 5 #[.int .u8 n] w fun e w' => e = .returned (.bool true) ∧ New w w' := by
  go_enter Try.func5, Try.ntmps5
  go_wp2_with (go_at_call 9; refine (new_any 4294967295 _ (by omega) (by omega)).mono ?_; rintro e w1 ⟨rfl, hc1, hn1⟩)
  go_loopw [10] (fun vi wr => ∃ (k : Nat), (k : Int) ≤ n ∧ vi = .int .u8 k ∧ Ctr wr w.heap.size 4294967295 0 4294967295 0 0 ∧ New w wr)
    (fun vi _ => (n - intOf vi).toNat)
  case atStart => exact ⟨0, by omega, rfl, hc1, hn1⟩
  case round =>
    obtain ⟨k, hk, rfl, hc, hn⟩ := hrel
    by_cases hkn : (k : Int) < n
    · go_wp2_with (first
        | (go_at_call 10; refine (take_full hc rfl).mono ?_; rintro e w2 ⟨rfl, rfl⟩)
        | (go_at_call 13; refine (skip_no hc _ (by omega)).mono ?_; rintro e w2 ⟨rfl, rfl⟩)
        | (go_at_call 14; refine (next_any hc).mono ?_; rintro e w2 ⟨rfl, rfl⟩))
      go_roundw
      case rel => exact ⟨k + 1, by omega, by go_num, hc, hn⟩
      case measure => simp [intOf]; omega
    · go_wp2_with fail
      refine (alive_any _).mono ?_
      rintro e w3 ⟨rfl, hn3⟩
      have hc3 : Ctr w3 w.heap.size 4294967295 0 4294967295 0 0 := hn3.blk hc
      go_wp2_with (first
        | (go_at_call 12; refine (left_any hc3 (by omega) (by omega)).mono ?_; rintro e w2 ⟨rfl, rfl⟩)
        | (go_at_call 15; refine (taken_any hc3).mono ?_; rintro e w2 ⟨rfl, rfl⟩))
      go_ret
      exact ⟨rfl, hn.trans hn3⟩

end Go.Proofs.Ytkpfekchcjmjeaa
