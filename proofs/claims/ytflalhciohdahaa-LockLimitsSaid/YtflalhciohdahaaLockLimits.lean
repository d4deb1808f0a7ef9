/- LockLimits: the walk. -/
import Derived.Test.YtflalhciohdahaaLockAlive
namespace Go.Proofs.Ytflalhciohdahaa
open Go.RowKit

theorem replicate_free (n : Nat) : freeP (List.replicate n (-1)) = true := freeP_iff.2 fun k => by rw [rep_owner]; omega
theorem heldP_rep (n : Nat) (o : Int) (ho : 0 ≤ o) : heldP (List.replicate n (-1)) o = [] := by
  refine List.eq_nil_iff_forall_not_mem.2 fun k hk => ?_
  have := (mem_heldP ho).1 hk
  rw [rep_owner] at this
  omega
theorem acqP_rep (n : Nat) (k : Int) (hk : 0 ≤ k) (hn : k < n) : acqP (List.replicate n (-1)) 0 k = 0 := by
  unfold acqP
  rw [List.length_replicate, if_neg (by omega), rep_owner, if_neg (by omega), heldP_rep n 0 (by omega), if_neg (by simp), if_neg (by omega)]
theorem acqP_end (n : Nat) (k : Int) (hk : (n : Int) ≤ k) : acqP (List.replicate n (-1)) 0 k = 2 := by
  unfold acqP
  rw [List.length_replicate, if_pos (by omega)]

set_option maxRecDepth 100000 in
set_option maxHeartbeats 3200000 in
theorem limits_any (n : Int) (w : World) (h0 : -9223372036854775808 ≤ n) (h1 : n ≤ 9223372036854775807) : Calls Try.prog 3 #[.int .i64 n] w fun e w' => e = .returned (.bool true) ∧ New w w' := by
  by_cases hA : 131072 < n
  · go_enter Try.func3, Try.ntmps3
    go_wp2_with fail
    refine (alive_any _).mono ?_
    rintro e w1 ⟨rfl, hn1⟩
    go_wp2
    go_ret
    exact ⟨rfl, hn1⟩
  · have hA' : decide (131072 < n) = false := decide_eq_false hA
    by_cases hB : n < -131072
    · go_enter Try.func3, Try.ntmps3
      go_wp2_with fail
      refine (alive_any _).mono ?_
      rintro e w1 ⟨rfl, hn1⟩
      go_wp2
      go_ret
      exact ⟨rfl, hn1⟩
    · have hB' : decide (n < -131072) = false := decide_eq_false hB
      by_cases hC : n < 0
      · go_enter Try.func3, Try.ntmps3
        go_wp2_with fail
        refine (lnew_none n (.inl hC) _).mono ?_
        rintro e w1 ⟨rfl, rfl⟩
        go_wp2_with fail
        refine (alive_any _).mono ?_
        rintro e w1 ⟨rfl, hn1⟩
        go_wp2
        go_ret
        exact ⟨rfl, hn1⟩
      · have hC' : decide (n < 0) = false := decide_eq_false hC
        by_cases hD : 65536 < n
        · go_enter Try.func3, Try.ntmps3
          go_wp2_with fail
          refine (lnew_none n (.inr hD) _).mono ?_
          rintro e w1 ⟨rfl, rfl⟩
          go_wp2_with fail
          refine (alive_any _).mono ?_
          rintro e w1 ⟨rfl, hn1⟩
          go_wp2
          go_ret
          exact ⟨rfl, hn1⟩
        · have hD' : decide (65536 < n) = false := decide_eq_false hD
          obtain ⟨m, rfl⟩ : ∃ m : Nat, n = m := ⟨n.toNat, by omega⟩
          go_enter Try.func3, Try.ntmps3
          go_wp2_with fail
          refine (lnew_any m (by omega) (by omega) _).mono ?_
          rintro e w1 ⟨b, bm, rfl, ht1, hb, hm, hn1⟩
          rw [Int.toNat_natCast] at ht1
          go_wp2_with fail
          refine (alive_any _).mono ?_
          rintro e w2 ⟨rfl, hn2⟩
          have ht2 := ht1.new hn2
          have hn12 := hn1.trans hn2
          go_wp2_with fail
          refine (llen_any ht2).mono ?_
          rw [List.length_replicate]
          rintro e w3 ⟨rfl, rfl⟩
          go_wp2_with fail
          refine (lfree_any ht2).mono ?_
          rw [replicate_free]
          rintro e w3 ⟨rfl, rfl⟩
          go_wp2_with fail
          refine (lacquire_any ht2 (by omega) 0 m (by decide) (WalkArith.wf_i64 (by omega))).mono ?_
          rw [acqP_end m m (by omega), show acqO (List.replicate m (-1)) 0 m = List.replicate m (-1) by unfold acqO; rw [acqP_end m m (by omega)]; rfl, show acqN (List.replicate m (-1)) 0 m = 0 by unfold acqN; rw [acqP_end m m (by omega)]; rfl]
          rintro e w3 ⟨rfl, ht3, hf3⟩
          have hn3 := TFr.new hn12 hf3 hb hm
          rcases Nat.eq_zero_or_pos m with rfl | hpos
          · go_wp2
            go_ret
            exact ⟨rfl, hn3⟩
          · have hz : ((m : Int) == 0) = false := by simp; omega
            have ha := lacquire_any ht3 (by omega) 0 ((m : Int) - 1) (by decide) (WalkArith.wf_i64 (by omega))
            rw [acqP_rep m ((m : Int) - 1) (by omega) (by omega)] at ha
            have HA := Lib.hid ha
            clear ha
            go_wp2_with fail
            refine HA.out.mono ?_
            rintro e w4 ⟨rfl, ht4, hf4⟩
            have hn4 := TFr.new hn3 hf4 hb hm
            clear ht4 ht3
            go_wp2
            go_ret
            exact ⟨rfl, hn4⟩

end Go.Proofs.Ytflalhciohdahaa
