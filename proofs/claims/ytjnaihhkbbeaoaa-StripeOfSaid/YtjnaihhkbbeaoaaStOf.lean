/- StripeOf: the walk. -/
import Derived.Test.YtjnaihhkbbeaoaaStAlive
import Derived.Deep.RegionHeld3
namespace Go.Proofs.Ytjnaihhkbbeaoaa
open Go.RowKit

set_option maxRecDepth 100000 in
set_option maxHeartbeats 6400000 in
theorem of_law (m : Int) (hm : 0 ≤ m ∧ m ≤ 255) (k : Int) (hk : 0 ≤ k ∧ k ≤ 4294967295) (w : World) :
    Calls Try.prog 3 #[.int .u8 m, .int .u32 k] w fun e w' => e = .returned (.bool true) ∧ New w w' := by
  have hcm : IntKind.i64.wrap m = m := IntWalk.i64_in _ (by omega)
  have hmod : Int.tmod m 16 = m % 16 := Int.tmod_eq_emod_of_nonneg hm.1
  obtain ⟨n, hn⟩ : ∃ n : Nat, 1 + m % 16 = n := ⟨(1 + m % 16).toNat, by omega⟩
  have hm16 : IntKind.i64.wrap (m % 16) = m % 16 := IntWalk.i64_in _ (by omega)
  have hadd : IntKind.i64.wrap (1 + m % 16) = n := by rw [hn]; exact IntWalk.i64_in _ (by omega)
  have hn0 : 0 < n := by omega
  have hn1 : n ≤ 16 := by omega
  have HN := Lib.hid hn
  have hku : IntKind.u64.wrap k = k := by simp [IntKind.wrap_u64]; omega
  have hnu : IntKind.u64.wrap (n : Int) = n := by simp [IntKind.wrap_u64]; omega
  have hkm0 : 0 ≤ k % (n : Int) := Int.emod_nonneg _ (by omega)
  have hkm1 : k % (n : Int) < n := Int.emod_lt_of_pos _ (by omega)
  have hkt : Int.tmod k (n : Int) = k % n := Int.tmod_eq_emod_of_nonneg hk.1
  have hkw : IntKind.u64.wrap (k % (n : Int)) = k % n := by simp [IntKind.wrap_u64]; omega
  have hkw2 : IntKind.i64.wrap (k % (n : Int)) = k % n := IntWalk.i64_in _ (by omega)
  have hnz : (n : Int) ≠ 0 := by omega
  have hnN : n ≠ 0 := by omega
  have hnz' : ((n : Int) == 0) = false := by simp; omega
  clear hn
  go_enter Try.func3, Try.ntmps3
  go_wp2_with fail
  refine (tnew_any n hn0 hn1 _).mono ?_
  rintro e w1 ⟨T, rfl, hTn, hlo, hhi, hT, hn1'⟩
  have HM := Lib.hid (Made.of hT hlo hhi hn1')
  have hof := fun wr (h : TBX w1.heap.size wr T []) => tof_any h k hk.1 hk.2
  have hsz := fun wr (h : TBX w1.heap.size wr T []) => tsizes_any h
  rw [hTn] at hof hsz
  have HOF := Lib.hid hof
  have HSZ := Lib.hid hsz
  clear hof hsz hT hn1' hlo hhi
  go_wp2_with fail
  go_region_held3 (fun _ => True) (exact trivial) ((first
    | (go_at_call 10
       refine (salive_any _).mono ?_
       rintro e w2 ⟨rfl, hn2⟩
       have HM2 := Lib.hid (HM.out.more (Fr.trans ((New.refl w1).drew) hn2)))
    | (go_at_call 11
       refine (HOF.out _ HM2.out.tbl).mono ?_
       rintro e w3 ⟨rfl, rfl⟩)
    | (go_at_call 12
       refine (HSZ.out _ HM2.out.tbl).mono ?_
       rintro e w4 ⟨o, rfl, ho, hT4, hf4⟩
       have HM4 := Lib.hid (HM2.out.turn hT4 hf4)
       obtain ⟨oA, oc, rfl, _⟩ := ho.form)
    | fail))
  all_goals
    have hl4 : ((sizesM n (List.map MB.m ([] : List MB))).length : Int) = n := by rw [sizesM_len]
    go_wp2
    go_ret
    exact ⟨by first | simp [sizesM_len] | rfl, HM4.out.new⟩

/-- The law, its arguments in order. -/
theorem of_any (m k : Int) (w : World) (h0 : 0 ≤ m) (h1 : m ≤ 255) (h2 : 0 ≤ k) (h3 : k ≤ 4294967295) : Calls Try.prog 3 #[.int .u8 m, .int .u32 k] w fun e w' => e = .returned (.bool true) ∧ New w w' := of_law m ⟨h0, h1⟩ k ⟨h2, h3⟩ w

end Go.Proofs.Ytjnaihhkbbeaoaa
