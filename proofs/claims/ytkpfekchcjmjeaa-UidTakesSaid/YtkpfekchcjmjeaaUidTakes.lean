/- UidTakes: the walk: Take and Skip return the results of the reference, and all numbers are its numbers. For every uint32 and every slice. -/
import Derived.Test.YtkpfekchcjmjeaaUidValid
import Derived.Test.YtkpfekchcjmjeaaUidRef
import Derived.Deep.RegionHeld3
import Derived.OpenShut
namespace Go.Proofs.Ytkpfekchcjmjeaa
open Go.RowKit

/-- What both counters hold at the loop's head. -/
def Both (wr : World) (b r : Nat) (F m t v d : Int) : Prop := Ctr wr b m t F v d ∧ RCtr wr r F m t ∧ (d = 0 ∨ d = 1 ∧ v = F) ∧ 0 ≤ m ∧ m ≤ 4294967295 ∧ 0 ≤ t

set_option maxHeartbeats 3200000 in
set_option maxRecDepth 100000 in
theorem takes_core (next : Int) (bb off n c : Nat) (zs : List Int) (w : World) (h0 : 0 ≤ next) (h1 : next ≤ 4294967295) (hn : zs.length = n) (hn2 : n ≤ 200)
    (hz : ∀ i x, zs[i]? = some x → w.cell? ⟨bb, off + i, none⟩ = some (.int .u32 x) ∧ 0 ≤ x ∧ x ≤ 4294967295) :
    Calls Try.prog 7 #[.int .u32 next, .slice (some ⟨bb, off, none⟩) n c] w fun e w' => e = .returned (.bool true) ∧ New w w' := by
  obtain ⟨F, hF⟩ : ∃ F, max next 1 = F := ⟨_, rfl⟩
  have hF1 : 1 ≤ F ∧ F ≤ 4294967295 := by omega
  have HF := Lib.hid hF
  have HZ := Lib.hid hz
  have HN := Lib.hid hn
  clear hz hn hF
  have hle : decide ((200 : Int) < (n : Int)) = false := by simp; omega
  go_enter Try.func7, Try.ntmps7
  go_wp2_with fail
  refine (new_any next _ (by omega) (by omega)).mono ?_
  rw [HF.out]
  rintro e w1 ⟨rfl, hc1, hn1⟩
  go_wp2_with fail
  refine (rnew_any next _ (by omega) (by omega)).mono ?_
  rw [HF.out]
  rintro e w2 ⟨rfl, hn2⟩
  go_wp2_with fail
  obtain ⟨r, hr⟩ : ∃ r, r = w2.heap.size := ⟨_, rfl⟩
  have hlt := Blk.lt hc1
  have hs1 := hn1.size
  have hs2 := hn2.size
  have hrne : w.heap.size < r := by omega
  have hc2 : Ctr (w2.alloc (.cells #[.int .u64 F, .int .u64 F, .int .u64 0] 39)) w.heap.size F 0 F 0 0 := Blk.alloc (hn2.blk hc1) _
  have hr2 : RCtr (w2.alloc (.cells #[.int .u64 F, .int .u64 F, .int .u64 0] 39)) r F F 0 := by rw [hr]; exact Blk.new _ _ _
  have hnn : New w (w2.alloc (.cells #[.int .u64 F, .int .u64 F, .int .u64 0] 39)) := (hn1.trans hn2).alloc _
  rw [← hr]
  have HR := Lib.hid hr
  clear hr
  go_loopw [25] (fun vi wr => ∃ (k : Nat) (m t v d : Int), k ≤ n ∧ vi = .int .i64 k ∧ Both wr w.heap.size r F m t v d ∧ t ≤ k ∧ New w wr)
    (fun vi _ => n - (intOf vi).toNat)
  case atStart => exact ⟨0, F, 0, 0, 0, by omega, rfl, ⟨hc2, hr2, .inl rfl, by omega, by omega, by omega⟩, by omega, hnn⟩
  case round =>
    obtain ⟨k, m, t, v, d, hk, rfl, ⟨hc, hrc, hd, hm0, hm1, ht0⟩, htk, hn⟩ := hrel
    have HD := Lib.hid hd
    clear hd
    by_cases hkn : k < n
    · obtain ⟨to, hto⟩ : ∃ to, zs[k]? = some to := ⟨_, List.getElem?_eq_getElem (by rw [HN.out]; exact hkn)⟩
      obtain ⟨hcell, ht00, ht11⟩ := HZ.out k to hto
      clear hto
      have hcw : wr.cell? ⟨bb, off + k, none⟩ = some (.int .u32 to) := Fr.cell hn hcell id
      by_cases hz : to = 0
      · subst hz
        by_cases hf : m < 4294967295
        · go_wp2_with (first
            | (go_at_call 10; refine (take_ok hc (by omega) hf ht0 (by omega)).mono ?_; rintro e w3 ⟨rfl, hc3, ho3⟩; have hr3 : RCtr w3 r F m t := ho3.blk hrc (by omega))
            | (go_at_call 18; refine (rtake_ok hr3 (by omega) hf ht0 (by omega)).mono ?_; rintro e w4 ⟨rfl, hr4, ho4⟩))
          obtain ⟨M, T, hc4, hr4, hM0, hM1, hT0, hT1, hn4⟩ : ∃ M T : Int, Ctr w4.drew w.heap.size M T F v d ∧ RCtr w4.drew r F M T ∧ 0 ≤ M ∧ M ≤ 4294967295 ∧ 0 ≤ T ∧ T ≤ k + 1 ∧ New w w4.drew :=
            ⟨m + 1, t + 1, Blk.drew (ho4.blk hc3 (by omega)), Blk.drew hr4, by omega, by omega, by omega, by omega, (New.one (New.one hn ho3 (Nat.le_refl _)) ho4 (by omega)).drew⟩
          clear hcw hcell hc hrc hc3 hr3
          have hwM : IntKind.u64.wrap M = M := IntWalk.u64_in _ (by omega)
          have hwL : IntKind.u64.wrap (4294967295 - M) = 4294967295 - M := IntWalk.u64_in _ (by omega)
          have hwF : IntKind.u64.wrap F = F := IntWalk.u64_in _ (by omega)
          have r0 : w4.cell? ⟨r, 0, none⟩ = some (.int .u64 F) := hr4.cell 0
          have r1 : w4.cell? ⟨r, 1, none⟩ = some (.int .u64 M) := hr4.cell 1
          have r2 : w4.cell? ⟨r, 2, none⟩ = some (.int .u64 T) := hr4.cell 2
          go_region_held3 (fun W => W.cell? ⟨r, 0, none⟩ = some (.int .u64 F) ∧ W.cell? ⟨r, 1, none⟩ = some (.int .u64 M) ∧ W.cell? ⟨r, 2, none⟩ = some (.int .u64 T))
            (first | exact ⟨r0, r1, r2⟩ | exact ⟨s0, s1, s2⟩)
            (first
              | (go_at_call 14; refine (next_any hc4).mono ?_; rintro e w5 ⟨rfl, rfl⟩)
              | (go_at_call 12; refine (left_any hc4 hM0 hM1).mono ?_; rintro e w5 ⟨rfl, rfl⟩)
              | (go_at_call 15; refine (taken_any hc4).mono ?_; rintro e w5 ⟨rfl, rfl⟩)
              | (go_at_call 16; refine (validity_any hc4 HD.out).mono ?_; rintro e w5 ⟨rfl, hc5, ho5⟩; have hr5 : RCtr w5 r F M T := ho5.blk hr4 (by omega); have s0 : w5.cell? ⟨r, 0, none⟩ = some (.int .u64 F) := hr5.cell 0; have s1 : w5.cell? ⟨r, 1, none⟩ = some (.int .u64 M) := hr5.cell 1; have s2 : w5.cell? ⟨r, 2, none⟩ = some (.int .u64 T) := hr5.cell 2))
          go_wp2
          go_roundw
          case rel => exact ⟨k + 1, M, T, F, 1, by omega, by go_num, ⟨hc5, hr5, .inr ⟨rfl, rfl⟩, hM0, hM1, hT0⟩, by omega, New.one hn4 ho5 (Nat.le_refl _)⟩
          case measure => simp [intOf]; omega
        · have HM := Lib.hid (show m = 4294967295 by omega)
          go_wp2_with (first
            | (go_at_call 10; refine (take_full hc HM.out).mono ?_; rintro e w3 ⟨rfl, rfl⟩)
            | (go_at_call 18; refine (rtake_full hrc HM.out).mono ?_; rintro e w4 ⟨rfl, rfl⟩))
          obtain ⟨M, T, hc4, hr4, hM0, hM1, hT0, hT1, hn4⟩ : ∃ M T : Int, Ctr wr.drew w.heap.size M T F v d ∧ RCtr wr.drew r F M T ∧ 0 ≤ M ∧ M ≤ 4294967295 ∧ 0 ≤ T ∧ T ≤ k + 1 ∧ New w wr.drew :=
            ⟨m, t, Blk.drew hc, Blk.drew hrc, by omega, by omega, by omega, by omega, hn.drew⟩
          clear hcw hcell hc hrc 
          have hwM : IntKind.u64.wrap M = M := IntWalk.u64_in _ (by omega)
          have hwL : IntKind.u64.wrap (4294967295 - M) = 4294967295 - M := IntWalk.u64_in _ (by omega)
          have hwF : IntKind.u64.wrap F = F := IntWalk.u64_in _ (by omega)
          have r0 : wr.cell? ⟨r, 0, none⟩ = some (.int .u64 F) := hr4.cell 0
          have r1 : wr.cell? ⟨r, 1, none⟩ = some (.int .u64 M) := hr4.cell 1
          have r2 : wr.cell? ⟨r, 2, none⟩ = some (.int .u64 T) := hr4.cell 2
          go_region_held3 (fun W => W.cell? ⟨r, 0, none⟩ = some (.int .u64 F) ∧ W.cell? ⟨r, 1, none⟩ = some (.int .u64 M) ∧ W.cell? ⟨r, 2, none⟩ = some (.int .u64 T))
            (first | exact ⟨r0, r1, r2⟩ | exact ⟨s0, s1, s2⟩)
            (first
              | (go_at_call 14; refine (next_any hc4).mono ?_; rintro e w5 ⟨rfl, rfl⟩)
              | (go_at_call 12; refine (left_any hc4 hM0 hM1).mono ?_; rintro e w5 ⟨rfl, rfl⟩)
              | (go_at_call 15; refine (taken_any hc4).mono ?_; rintro e w5 ⟨rfl, rfl⟩)
              | (go_at_call 16; refine (validity_any hc4 HD.out).mono ?_; rintro e w5 ⟨rfl, hc5, ho5⟩; have hr5 : RCtr w5 r F M T := ho5.blk hr4 (by omega); have s0 : w5.cell? ⟨r, 0, none⟩ = some (.int .u64 F) := hr5.cell 0; have s1 : w5.cell? ⟨r, 1, none⟩ = some (.int .u64 M) := hr5.cell 1; have s2 : w5.cell? ⟨r, 2, none⟩ = some (.int .u64 T) := hr5.cell 2))
          go_wp2
          go_roundw
          case rel => exact ⟨k + 1, M, T, F, 1, by omega, by go_num, ⟨hc5, hr5, .inr ⟨rfl, rfl⟩, hM0, hM1, hT0⟩, by omega, New.one hn4 ho5 (Nat.le_refl _)⟩
          case measure => simp [intOf]; omega
      · have hzb : (to == 0) = false := by simp [hz]
        by_cases hs : m < to
        · go_wp2_with (first
            | (go_at_call 13; refine (skip_yes hc to hs).mono ?_; rintro e w3 ⟨rfl, hc3, ho3⟩; have hr3 : RCtr w3 r F m t := ho3.blk hrc (by omega))
            | (go_at_call 19; refine (rskip_yes hr3 to ht00 ht11 hs).mono ?_; rintro e w4 ⟨rfl, hr4, ho4⟩))
          obtain ⟨M, T, hc4, hr4, hM0, hM1, hT0, hT1, hn4⟩ : ∃ M T : Int, Ctr w4.drew w.heap.size M T F v d ∧ RCtr w4.drew r F M T ∧ 0 ≤ M ∧ M ≤ 4294967295 ∧ 0 ≤ T ∧ T ≤ k + 1 ∧ New w w4.drew :=
            ⟨to, t, Blk.drew (ho4.blk hc3 (by omega)), Blk.drew hr4, by omega, by omega, by omega, by omega, (New.one (New.one hn ho3 (Nat.le_refl _)) ho4 (by omega)).drew⟩
          clear hcw hcell hc hrc hc3 hr3
          have hwM : IntKind.u64.wrap M = M := IntWalk.u64_in _ (by omega)
          have hwL : IntKind.u64.wrap (4294967295 - M) = 4294967295 - M := IntWalk.u64_in _ (by omega)
          have hwF : IntKind.u64.wrap F = F := IntWalk.u64_in _ (by omega)
          have r0 : w4.cell? ⟨r, 0, none⟩ = some (.int .u64 F) := hr4.cell 0
          have r1 : w4.cell? ⟨r, 1, none⟩ = some (.int .u64 M) := hr4.cell 1
          have r2 : w4.cell? ⟨r, 2, none⟩ = some (.int .u64 T) := hr4.cell 2
          go_region_held3 (fun W => W.cell? ⟨r, 0, none⟩ = some (.int .u64 F) ∧ W.cell? ⟨r, 1, none⟩ = some (.int .u64 M) ∧ W.cell? ⟨r, 2, none⟩ = some (.int .u64 T))
            (first | exact ⟨r0, r1, r2⟩ | exact ⟨s0, s1, s2⟩)
            (first
              | (go_at_call 14; refine (next_any hc4).mono ?_; rintro e w5 ⟨rfl, rfl⟩)
              | (go_at_call 12; refine (left_any hc4 hM0 hM1).mono ?_; rintro e w5 ⟨rfl, rfl⟩)
              | (go_at_call 15; refine (taken_any hc4).mono ?_; rintro e w5 ⟨rfl, rfl⟩)
              | (go_at_call 16; refine (validity_any hc4 HD.out).mono ?_; rintro e w5 ⟨rfl, hc5, ho5⟩; have hr5 : RCtr w5 r F M T := ho5.blk hr4 (by omega); have s0 : w5.cell? ⟨r, 0, none⟩ = some (.int .u64 F) := hr5.cell 0; have s1 : w5.cell? ⟨r, 1, none⟩ = some (.int .u64 M) := hr5.cell 1; have s2 : w5.cell? ⟨r, 2, none⟩ = some (.int .u64 T) := hr5.cell 2))
          go_wp2
          go_roundw
          case rel => exact ⟨k + 1, M, T, F, 1, by omega, by go_num, ⟨hc5, hr5, .inr ⟨rfl, rfl⟩, hM0, hM1, hT0⟩, by omega, New.one hn4 ho5 (Nat.le_refl _)⟩
          case measure => simp [intOf]; omega
        · go_wp2_with (first
            | (go_at_call 13; refine (skip_no hc to (by omega)).mono ?_; rintro e w3 ⟨rfl, rfl⟩)
            | (go_at_call 19; refine (rskip_no hrc to ht00 ht11 (by omega)).mono ?_; rintro e w4 ⟨rfl, rfl⟩))
          obtain ⟨M, T, hc4, hr4, hM0, hM1, hT0, hT1, hn4⟩ : ∃ M T : Int, Ctr wr.drew w.heap.size M T F v d ∧ RCtr wr.drew r F M T ∧ 0 ≤ M ∧ M ≤ 4294967295 ∧ 0 ≤ T ∧ T ≤ k + 1 ∧ New w wr.drew :=
            ⟨m, t, Blk.drew hc, Blk.drew hrc, by omega, by omega, by omega, by omega, hn.drew⟩
          clear hcw hcell hc hrc 
          have hwM : IntKind.u64.wrap M = M := IntWalk.u64_in _ (by omega)
          have hwL : IntKind.u64.wrap (4294967295 - M) = 4294967295 - M := IntWalk.u64_in _ (by omega)
          have hwF : IntKind.u64.wrap F = F := IntWalk.u64_in _ (by omega)
          have r0 : wr.cell? ⟨r, 0, none⟩ = some (.int .u64 F) := hr4.cell 0
          have r1 : wr.cell? ⟨r, 1, none⟩ = some (.int .u64 M) := hr4.cell 1
          have r2 : wr.cell? ⟨r, 2, none⟩ = some (.int .u64 T) := hr4.cell 2
          go_region_held3 (fun W => W.cell? ⟨r, 0, none⟩ = some (.int .u64 F) ∧ W.cell? ⟨r, 1, none⟩ = some (.int .u64 M) ∧ W.cell? ⟨r, 2, none⟩ = some (.int .u64 T))
            (first | exact ⟨r0, r1, r2⟩ | exact ⟨s0, s1, s2⟩)
            (first
              | (go_at_call 14; refine (next_any hc4).mono ?_; rintro e w5 ⟨rfl, rfl⟩)
              | (go_at_call 12; refine (left_any hc4 hM0 hM1).mono ?_; rintro e w5 ⟨rfl, rfl⟩)
              | (go_at_call 15; refine (taken_any hc4).mono ?_; rintro e w5 ⟨rfl, rfl⟩)
              | (go_at_call 16; refine (validity_any hc4 HD.out).mono ?_; rintro e w5 ⟨rfl, hc5, ho5⟩; have hr5 : RCtr w5 r F M T := ho5.blk hr4 (by omega); have s0 : w5.cell? ⟨r, 0, none⟩ = some (.int .u64 F) := hr5.cell 0; have s1 : w5.cell? ⟨r, 1, none⟩ = some (.int .u64 M) := hr5.cell 1; have s2 : w5.cell? ⟨r, 2, none⟩ = some (.int .u64 T) := hr5.cell 2))
          go_wp2
          go_roundw
          case rel => exact ⟨k + 1, M, T, F, 1, by omega, by go_num, ⟨hc5, hr5, .inr ⟨rfl, rfl⟩, hM0, hM1, hT0⟩, by omega, New.one hn4 ho5 (Nat.le_refl _)⟩
          case measure => simp [intOf]; omega
    · go_wp2_with (go_at_call 11; refine (alive_any _).mono ?_; rintro e w3 ⟨rfl, hn3⟩)
      go_ret
      exact ⟨rfl, hn.trans hn3⟩

set_option maxHeartbeats 800000 in
/-- A long list: the example alone. -/
theorem takes_long (next : Int) (A : Option Addr) (n c : Nat) (w : World) (hn2 : 200 < n) :
    Calls Try.prog 7 #[.int .u32 next, .slice A n c] w fun e w' => e = .returned (.bool true) ∧ New w w' := by
  have hle : decide ((200 : Int) < (n : Int)) = true := by simp; omega
  go_enter Try.func7, Try.ntmps7
  go_wp2_with (go_at_call 11; refine (alive_any _).mono ?_; rintro e w3 ⟨rfl, hn3⟩)
  go_ret
  exact ⟨rfl, hn3⟩

set_option maxHeartbeats 800000 in
/-- An empty list. -/
theorem takes_empty (next : Int) (A : Option Addr) (c : Nat) (w : World) (h0 : 0 ≤ next) (h1 : next ≤ 4294967295) :
    Calls Try.prog 7 #[.int .u32 next, .slice A 0 c] w fun e w' => e = .returned (.bool true) ∧ New w w' := by
  go_enter Try.func7, Try.ntmps7
  go_wp2_with fail
  refine (new_any next _ (by omega) (by omega)).mono ?_
  rintro e w1 ⟨rfl, _, hn1⟩
  go_wp2_with fail
  refine (rnew_any next _ (by omega) (by omega)).mono ?_
  rintro e w2 ⟨rfl, hn2⟩
  go_wp2
  refine wp_loop_rounds 1 ?_
  rw [rounds_succ]
  go_wp2_with (go_at_call 11; refine (alive_any _).mono ?_; rintro e w3 ⟨rfl, hn3⟩)
  go_ret
  exact ⟨rfl, ((hn1.trans hn2).alloc _).trans hn3⟩

theorem takes_any (next : Int) (s : Sl Int) (w : World) (h0 : 0 ≤ next) (h1 : next ≤ 4294967295) (hs : SlAt (Value.int .u32) w.heap.size w s ∧ ∀ x ∈ s.xs, (Lit.int .u32 x).wf = true) :
    Calls Try.prog 7 #[.int .u32 next, s.val] w fun e w' => e = .returned (.bool true) ∧ New w w' := by
  obtain ⟨A, n, c, zs⟩ := s
  obtain ⟨⟨hn, hnc, hcell⟩, hwf⟩ := hs
  rcases Nat.lt_or_ge 200 n with hl | hl
  · exact takes_long next A n c w hl
  · rcases Nat.eq_zero_or_pos n with rfl | hp
    · exact takes_empty next A c w h0 h1
    · obtain ⟨b, off, hA, _, hc⟩ := hcell hp
      obtain rfl : A = some ⟨b, off, none⟩ := hA
      exact takes_core next b off n c zs w h0 h1 hn.symm hl fun i x hx => ⟨hc i x hx, bounds_u32 (hwf x (List.mem_of_getElem? hx))⟩

end Go.Proofs.Ytkpfekchcjmjeaa
