/- EventNames: the walk: each kind has its name. For every int. -/
import Derived.Test.YtjaapenojppnpaaEvAlive
namespace Go.Proofs.Ytjaapenojppnpaa
open Go.RowKit

set_option maxHeartbeats 1600000 in
theorem names_any (k : Int) (w : World) (_h0 : -9223372036854775808 ≤ k) (_h1 : k ≤ 9223372036854775807) :
    Calls Try.prog 5 #[.int .i64 k] w fun e w' => e = .returned (.bool true) ∧ New w w' := by
  rcases Int.lt_or_le k 1 with h | h
  · have hd : decide ((1 : Int) ≤ k) = false := by simp; omega
    have hn : nameOf k = ⟨#[]⟩ := by unfold nameOf; rw [if_neg (by omega), if_neg (by omega), if_neg (by omega)]
    go_enter Try.func5, Try.ntmps5
    go_wp2_with fail
    refine (alive_any _).mono ?_
    rintro e w1 ⟨rfl, hn1⟩
    go_wp2_with fail
    refine (name_any k _).mono ?_
    rw [hn]
    rintro e w2 ⟨rfl, rfl⟩
    go_wp2
    go_ret
    exact ⟨rfl, hn1⟩
  · rcases Int.lt_or_le 3 k with h3 | h3
    · have hd : decide ((k : Int) ≤ 3) = false := by simp; omega
      have hn : nameOf k = ⟨#[]⟩ := by unfold nameOf; rw [if_neg (by omega), if_neg (by omega), if_neg (by omega)]
      go_enter Try.func5, Try.ntmps5
      go_wp2_with fail
      refine (alive_any _).mono ?_
      rintro e w1 ⟨rfl, hn1⟩
      go_wp2_with fail
      refine (name_any k _).mono ?_
      rw [hn]
      rintro e w2 ⟨rfl, rfl⟩
      go_wp2
      go_ret
      exact ⟨rfl, hn1⟩
    · have hk : k = 1 ∨ k = 2 ∨ k = 3 := by omega
      have e1 : ((nameOf 1).toList == [97, 114, 114, 105, 118, 101, 100]) = true := by decide +kernel
      have e2 : ((nameOf 2).toList == [103, 111, 110, 101]) = true := by decide +kernel
      have e3 : ((nameOf 3).toList == [99, 104, 97, 110, 103, 101, 100]) = true := by decide +kernel
      rcases hk with rfl | rfl | rfl
      all_goals
        go_enter Try.func5, Try.ntmps5
        go_wp2_with fail
        refine (alive_any _).mono ?_
        rintro e w1 ⟨rfl, hn1⟩
        go_wp2_with fail
        refine (name_any _ _).mono ?_
        rintro e w2 ⟨rfl, rfl⟩
        go_wp2
        go_ret
        exact ⟨rfl, ((New.refl _).alloc _).trans hn1⟩

end Go.Proofs.Ytjaapenojppnpaa
