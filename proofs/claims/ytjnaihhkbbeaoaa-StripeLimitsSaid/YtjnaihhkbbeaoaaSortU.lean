/- slices.Sort at []uint32, in our words. -/
import Derived.Test.YtjnaihhkbbeaoaaSort9
import Derived.Test.YtjnaihhkbbeaoaaMore
namespace Go.Proofs.Ytjnaihhkbbeaoaa
open Go.RowKit Go.Sort

set_option maxHeartbeats 1600000 in
theorem insertion_none (w : World) : Calls Try.prog 52 #[.slice none 0 0, .int .i64 0, .int .i64 0] w fun e w' => e = .returned (.tuple #[]) ∧ w' = w := by
  go_enter Try.func52, Try.ntmps52
  go_wp2
  go_loopg [6] 0 (fun _ vi wr => vi = .int .i64 1 ∧ wr = w)
  case atStart => exact ⟨by go_num, rfl⟩
  case round =>
    obtain ⟨rfl, rfl⟩ := hrel
    go_wp2
    go_end0
    first | exact ⟨rfl, rfl⟩ | trivial

set_option maxRecDepth 100000 in
set_option maxHeartbeats 1600000 in
theorem pdq_none (w : World) : Calls Try.prog 44 #[.slice none 0 0, .int .i64 0, .int .i64 0, .int .i64 0] w fun e w' => e = .returned (.tuple #[]) ∧ w' = w := by
  go_enter Try.func44, Try.ntmps44
  go_wp2
  go_loopg [1, 2, 3, 8, 9] 0 (fun _ s1 s2 s3 s8 s9 wr => s1 = .int .i64 0 ∧ s2 = .int .i64 0 ∧ s3 = .int .i64 0 ∧ s8 = .bool true ∧ s9 = .bool true ∧ wr = w)
  case atStart => exact ⟨rfl, rfl, rfl, rfl, rfl, rfl⟩
  case round =>
    obtain ⟨rfl, rfl, rfl, rfl, rfl, rfl⟩ := hrel
    go_wp2_with (go_at_call 52; refine (insertion_none _).mono ?_; rintro e w1 ⟨rfl, rfl⟩)
    (try simp only [Exit.inBlock, Exit.then]); refine bodyPost_ret (results_none rfl _ _ _) rfl ?_
    exact ⟨rfl, rfl⟩

theorem len_any (n : Nat) (hn : n < 4611686018427387904) (w : World) : Calls Try.prog 45 #[.int .u64 (n : Int)] w fun e w' => e = .returned (.int .i64 (bitsLen n : Nat)) ∧ w' = w := by
  have h := Any.bits_Len (SlLaysF0.n15.bits (P := Try.prog) (ρ := npA_ren) { npA with }) (n : Int) w (by omega) (by omega)
  rwa [Int.toNat_natCast, bitLen_eq _ (by omega)] at h

set_option maxRecDepth 100000 in
set_option maxHeartbeats 1600000 in
theorem usort_any {base : Nat} {w : World} {v : Value} {l : List Int} (hv : Own (intE .u32) 22 base w v l) (hl : l.length ≤ 1000000) :
    Calls Try.prog 31 #[v] w fun e w' => e = .returned (.tuple #[]) ∧ Own (intE .u32) 22 base w' v (l.mergeSort fun x y => decide (x ≤ y)) ∧ Fr (fun k => v.ownBlock = some k) w w' := by
  have hv' := hv
  rcases hv.2 with ⟨rfl, hz⟩ | ⟨g, cap, cur, rfl, hbase, hgb, r1, r2, r3, r4⟩
  · obtain rfl : l = [] := List.eq_nil_of_length_eq_zero hz
    have hlen := fun w => len_any 0 (by omega) w
    rw [show bitsLen 0 = 0 from rfl, show ((0 : Nat) : Int) = 0 from rfl] at hlen
    have HL := Lib.hid hlen
    clear hlen hv
    go_enter Try.func31, Try.ntmps31
    go_wp2_with (first
      | (go_at_call 45; refine (HL.out _).mono ?_; rintro e w1 ⟨rfl, rfl⟩)
      | (go_at_call 44; refine (pdq_none _).mono ?_; rintro e w1 ⟨rfl, rfl⟩))
    go_end0
    exact ⟨rfl, by rw [List.mergeSort_nil]; exact hv', Fr.refl _ _⟩
  · obtain ⟨d, hd⟩ : ∃ d : Array Int, d = l.toArray := ⟨_, rfl⟩
    have hds : d.size = l.length := by rw [hd]; simp
    have hR : SRow 22 base w g cap d := by unfold SRow; rw [hd]; simpa using hv'
    have hlen := fun w => len_any l.length (by omega) w
    have hlim : bitsLen l.length ≤ 1000 := Nat.le_trans ((bitsLen_le_iff _ 62).2 (by omega)) (by omega)
    obtain ⟨m, hm⟩ : ∃ m, bitsLen l.length = m := ⟨_, rfl⟩
    have hp := pdq_any (d.size + 1) w d 0 d.size m (by omega) hR (Nat.zero_le _) (Nat.le_refl _) (by omega) (by omega) (.inl rfl)
    have hres : (pdq ltInt d 0 d.size m true true).toList = l.mergeSort (fun x y => decide (x ≤ y)) := by
      rw [← hm, ← hds, hd]
      exact sortInt l
    rw [hm] at hlen
    rw [hds, show ((0 : Nat) : Int) = 0 from rfl] at hp
    rw [hds] at hres
    have hnw : IntKind.u64.wrap (l.length : Int) = (l.length : Int) := by simp [IntKind.wrap, IntKind.bits, IntKind.signed]; omega
    have HL := Lib.hid hlen
    have HP := Lib.hid hp
    have HRES := Lib.hid hres
    clear hlen hp hres hm hds hd hR hlim hv hv' r4
    obtain ⟨n, hn⟩ : ∃ n, n = l.length := ⟨_, rfl⟩
    rw [← hn] at HL HP HRES hnw hl ⊢
    clear r1 r2 r3 hgb
    have hn' := Lib.hid hn
    clear hn
    go_enter Try.func31, Try.ntmps31
    go_wp2_with (first
      | (go_at_call 45; refine (HL.out _).mono ?_; rintro e w1 ⟨rfl, rfl⟩)
      | (go_at_call 44; refine HP.out.mono ?_; rintro e w1 ⟨rfl, hR1, hs1, hO1⟩))
    go_end0
    refine ⟨rfl, ?_, hO1.mono fun i _ hi => by subst hi; rfl⟩
    have h := hR1
    unfold SRow at h
    rw [HRES.out, hs1] at h
    exact h

end Go.Proofs.Ytjnaihhkbbeaoaa
