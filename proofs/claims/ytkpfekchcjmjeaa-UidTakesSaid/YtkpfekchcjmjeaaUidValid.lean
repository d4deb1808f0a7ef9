/- UidValid: the walk: the validity is that of the first identifier, whenever it is asked for. For all arguments of the parameters' types. -/
import Derived.Test.YtkpfekchcjmjeaaUidAlive
import Derived.Test.YtkpfekchcjmjeaaUidMore
namespace Go.Proofs.Ytkpfekchcjmjeaa
open Go.RowKit

/-- Take, whatever the counter's state. -/
theorem take_some {w : World} {b : Nat} {n t f v d : Int} (h : Ctr w b n t f v d) (h0 : 0 ≤ n) (h1 : n ≤ 4294967295) (ht0 : 0 ≤ t) (ht1 : t < 9223372036854775807) :
    Calls Try.prog 10 #[.pointer (some ⟨b, 0, none⟩)] w fun e w' => (∃ x c : Int, e = .returned (.tuple #[.int .u32 x, .int .i64 c])) ∧ (∃ n' t' : Int, Ctr w' b n' t' f v d ∧ 0 ≤ n' ∧ n' ≤ 4294967295 ∧ 0 ≤ t' ∧ t' ≤ t + 1) ∧ One b w w' := by
  rcases Int.lt_or_le n 4294967295 with hl | hl
  · exact (take_ok h h0 hl ht0 ht1).mono fun e w' ⟨he, hc, ho⟩ => ⟨⟨_, _, he⟩, ⟨n + 1, t + 1, hc, by omega, by omega, by omega, by omega⟩, ho⟩
  · exact (take_full h (by omega)).mono fun e w' ⟨he, hw⟩ => by
      subst hw
      exact ⟨⟨_, _, he⟩, ⟨n, t, h, h0, h1, ht0, by omega⟩, One.refl _ _⟩

/-- Validity, whatever the counter's state. -/
theorem validity_any {w : World} {b : Nat} {n t f v d : Int} (h : Ctr w b n t f v d) (hd : d = 0 ∨ d = 1 ∧ v = f) :
    Calls Try.prog 16 #[.pointer (some ⟨b, 0, none⟩)] w fun e w' => e = .returned (.int .u32 f) ∧ Ctr w' b n t f f 1 ∧ One b w w' := by
  rcases hd with rfl | ⟨rfl, rfl⟩
  · exact validity_first b w n t f v h
  · exact (validity_done b w n t v v h).mono fun e w' ⟨he, hc, hn⟩ => ⟨he, hc, hn.mono fun _ _ h => h.elim⟩

set_option maxHeartbeats 1600000 in
/-- The first identifier is at least 1. -/
theorem valid_high (next n : Int) (early : Bool) (w : World) (h0 : 1 ≤ next) (h1 : next ≤ 4294967295) (n0 : 0 ≤ n) (n1 : n ≤ 255) :
    Calls Try.prog 6 #[.int .u32 next, .bool early, .int .u8 n] w fun e w' => e = .returned (.bool true) ∧ New w w' := by
  have hm : max next 1 = next := by omega
  have HM := Lib.hid hm
  clear hm
  cases early
  all_goals
    go_enter Try.func6, Try.ntmps6
    go_wp2_with (first
      | (go_at_call 9; refine (new_any next _ (by omega) (by omega)).mono ?_; rw [HM.out]; rintro e w1 ⟨rfl, hc1, hn1⟩)
      | (go_at_call 16; refine (validity_any hc1 (.inl rfl)).mono ?_; rintro e w2 ⟨rfl, hc2, hn2⟩))
    go_loopw [16] (fun vi wr => ∃ (k : Nat) (m t v d : Int), (k : Int) ≤ n ∧ vi = .int .u8 k ∧ 0 ≤ m ∧ m ≤ 4294967295 ∧ 0 ≤ t ∧ t ≤ k ∧ Ctr wr w.heap.size m t next v d ∧ (d = 0 ∨ d = 1 ∧ v = next) ∧ New w wr)
      (fun vi _ => (n - intOf vi).toNat)
    case atStart => first
      | exact ⟨0, next, 0, next, 1, by omega, rfl, by omega, by omega, by omega, by omega, hc2, .inr ⟨rfl, rfl⟩, hn1.one hn2 (Nat.le_refl _)⟩
      | exact ⟨0, next, 0, 0, 0, by omega, rfl, by omega, by omega, by omega, by omega, hc1, .inl rfl, hn1⟩
    case round =>
      obtain ⟨k, m, t, v, d, hk, rfl, hm0, hm1, ht0, ht1, hc, hd, hn⟩ := hrel
      have HD := Lib.hid hd
      clear hd
      by_cases hkn : (k : Int) < n
      · go_wp2_with (go_at_call 10; refine (take_some hc hm0 hm1 ht0 (by omega)).mono ?_; rintro e w3 ⟨⟨x, c, rfl⟩, ⟨n', t', hc3, hn0, hn1', ht0', ht1'⟩, ho⟩)
        go_roundw
        case rel => exact ⟨k + 1, n', t', v, d, by omega, by go_num, hn0, hn1', ht0', by omega, hc3, HD.out, hn.one ho (Nat.le_refl _)⟩
        case measure => simp [intOf]; omega
      · go_wp2_with fail
        refine (alive_any _).mono ?_
        rintro e w3 ⟨rfl, hn3⟩
        have hc3 : Ctr w3 w.heap.size m t next v d := hn3.blk hc
        go_wp2_with fail
        refine (validity_any hc3 HD.out).mono ?_
        rintro e w4 ⟨rfl, hc4, hn4⟩
        go_wp2_with fail
        refine (validity_any hc4 (.inr ⟨rfl, rfl⟩)).mono ?_
        rintro e w5 ⟨rfl, hc5, hn5⟩
        go_wp2
        go_ret
        exact ⟨rfl, New.one (New.one (hn.trans hn3) hn4 (Nat.le_refl _)) hn5 (Nat.le_refl _)⟩

set_option maxHeartbeats 1600000 in
/-- The first identifier is 0: 1 is taken for it. -/
theorem valid_low (n : Int) (early : Bool) (w : World) (n0 : 0 ≤ n) (n1 : n ≤ 255) :
    Calls Try.prog 6 #[.int .u32 0, .bool early, .int .u8 n] w fun e w' => e = .returned (.bool true) ∧ New w w' := by
  have hm : max (0 : Int) 1 = 1 := by omega
  have HM := Lib.hid hm
  clear hm
  cases early
  all_goals
    go_enter Try.func6, Try.ntmps6
    go_wp2_with (first
      | (go_at_call 9; refine (new_any 0 _ (by omega) (by omega)).mono ?_; rw [HM.out]; rintro e w1 ⟨rfl, hc1, hn1⟩)
      | (go_at_call 16; refine (validity_any hc1 (.inl rfl)).mono ?_; rintro e w2 ⟨rfl, hc2, hn2⟩))
    go_loopw [16] (fun vi wr => ∃ (k : Nat) (m t v d : Int), (k : Int) ≤ n ∧ vi = .int .u8 k ∧ 0 ≤ m ∧ m ≤ 4294967295 ∧ 0 ≤ t ∧ t ≤ k ∧ Ctr wr w.heap.size m t 1 v d ∧ (d = 0 ∨ d = 1 ∧ v = 1) ∧ New w wr)
      (fun vi _ => (n - intOf vi).toNat)
    case atStart => first
      | exact ⟨0, 1, 0, 1, 1, by omega, rfl, by omega, by omega, by omega, by omega, hc2, .inr ⟨rfl, rfl⟩, hn1.one hn2 (Nat.le_refl _)⟩
      | exact ⟨0, 1, 0, 0, 0, by omega, rfl, by omega, by omega, by omega, by omega, hc1, .inl rfl, hn1⟩
    case round =>
      obtain ⟨k, m, t, v, d, hk, rfl, hm0, hm1, ht0, ht1, hc, hd, hn⟩ := hrel
      have HD := Lib.hid hd
      clear hd
      by_cases hkn : (k : Int) < n
      · go_wp2_with (go_at_call 10; refine (take_some hc hm0 hm1 ht0 (by omega)).mono ?_; rintro e w3 ⟨⟨x, c, rfl⟩, ⟨n', t', hc3, hn0, hn1', ht0', ht1'⟩, ho⟩)
        go_roundw
        case rel => exact ⟨k + 1, n', t', v, d, by omega, by go_num, hn0, hn1', ht0', by omega, hc3, HD.out, hn.one ho (Nat.le_refl _)⟩
        case measure => simp [intOf]; omega
      · go_wp2_with fail
        refine (alive_any _).mono ?_
        rintro e w3 ⟨rfl, hn3⟩
        have hc3 : Ctr w3 w.heap.size m t 1 v d := hn3.blk hc
        go_wp2_with fail
        refine (validity_any hc3 HD.out).mono ?_
        rintro e w4 ⟨rfl, hc4, hn4⟩
        go_wp2_with fail
        refine (validity_any hc4 (.inr ⟨rfl, rfl⟩)).mono ?_
        rintro e w5 ⟨rfl, hc5, hn5⟩
        go_wp2
        go_ret
        exact ⟨rfl, New.one (New.one (hn.trans hn3) hn4 (Nat.le_refl _)) hn5 (Nat.le_refl _)⟩

theorem valid_any (next : Int) (early : Bool) (n : Int) (w : World) (h0 : 0 ≤ next) (h1 : next ≤ 4294967295) (n0 : 0 ≤ n) (n1 : n ≤ 255) :
    Calls Try.prog 6 #[.int .u32 next, .bool early, .int .u8 n] w fun e w' => e = .returned (.bool true) ∧ New w w' := by
  rcases Int.lt_or_le next 1 with hn | hn
  · obtain rfl : next = 0 := by omega
    exact valid_low n early w n0 n1
  · exact valid_high next n early w hn h1 n0 n1

end Go.Proofs.Ytkpfekchcjmjeaa
