/- UidAscends: the walk. -/
import Derived.Test.YtkpfekchcjmjeaaUidAlive
namespace Go.Proofs.Ytkpfekchcjmjeaa
open Go.RowKit

set_option maxHeartbeats 800000 in
theorem ascends_any (next n : Int) (w : World) (h0 : 0 ≤ next) (h1 : next ≤ 4294967295) (n0 : 0 ≤ n) (n1 : n ≤ 255) :
    Calls Try.prog 3 #[.int .u32 next, .int .u8 n] w fun e w' => e = .returned (.bool true) ∧ New w w' := by
  go_enter Try.func3, Try.ntmps3
  go_wp2_with (go_at_call 9; refine (new_any next _ h0 h1).mono ?_; rintro e w1 ⟨rfl, hc1, hn1⟩)
  go_loopw [6, 14] (fun vl vi wr => ∃ (k : Nat) (l m t : Int), (k : Int) ≤ n ∧ vi = .int .u8 k ∧ vl = .int .u32 l ∧ 0 ≤ l ∧ l < m ∧ next ≤ m ∧ m ≤ 4294967295 ∧ 0 ≤ t ∧ t ≤ k ∧ Ctr wr w.heap.size m t (max next 1) 0 0 ∧ New w wr)
    (fun _ vi _ => (n - intOf vi).toNat)
  case atStart => exact ⟨0, 0, max next 1, 0, by omega, rfl, rfl, by omega, by omega, by omega, by omega, by omega, by omega, hc1, hn1⟩
  case round =>
    obtain ⟨k, l, m, t, hk, rfl, rfl, hl, hlm, hnm, hm, ht, htk, hc, hn⟩ := hrel
    by_cases hkn : (k : Int) < n
    · by_cases hf : m < 4294967295
      · go_wp2_with (go_at_call 10; refine (take_ok hc (by omega) hf ht (by omega)).mono ?_; rintro e w2 ⟨rfl, hc2, hn2⟩)
        go_roundw
        case rel => exact ⟨k + 1, m, m + 1, t + 1, by omega, by go_num, rfl, by omega, by omega, by omega, by omega, by omega, by omega, hc2, hn.one hn2 (Nat.le_refl _)⟩
        case measure => simp [intOf]; omega
      · have hm2 : m = 4294967295 := by omega
        have HM := Lib.hid hm2
        clear hm2
        go_wp2_with (go_at_call 10; refine (take_full hc HM.out).mono ?_; rintro e w2 ⟨rfl, rfl⟩)
        refine (alive_any _).mono ?_
        rintro e w3 ⟨rfl, hn3⟩
        have hc3 : Ctr w3 w.heap.size m t (max next 1) 0 0 := hn3.blk hc
        have hz : (4294967295 - m : Int) = 0 := by have := HM.out; omega
        have HZ := Lib.hid hz
        clear hz
        go_wp2_with (go_at_call 12; refine (left_any hc3 (by omega) hm).mono ?_; rw [HZ.out]; rintro e w4 ⟨rfl, rfl⟩)
        go_ret
        exact ⟨rfl, hn.trans hn3⟩
    · go_wp2_with (go_at_call 11; refine (alive_any _).mono ?_; rintro e w2 ⟨rfl, hn2⟩)
      go_ret
      exact ⟨rfl, hn.trans hn2⟩

end Go.Proofs.Ytkpfekchcjmjeaa
