/- The reference of chapter 12: Pos. -/
import Derived.Test.YtmhhmenhfocfjaaRows
import Derived.Test.YtmhhmenhfocfjaaInts
import Derived.Test.YtmhhmenhfocfjaaMore
import Derived.Test.YtmhhmenhfocfjaaSlU
import Derived.WalkKit
import Derived.WalkSpells
import Derived.WalkLawsBesides
import Derived.Deep.QuietTactic
import Derived.BigQuiet
import Derived.Lib.Hide
namespace Go.Proofs.Ytmhhmenhfocfjaa
open Go.RowKit

/-- What the reference's Pos hands back: the first place. -/
def RefPos (l : List Int) (uid r : Int) : Prop := (r = 0 ∧ uid ∉ l) ∨ ∃ k : Nat, r = k + 1 ∧ l[k]? = some uid ∧ uid ∉ l.take k

set_option maxHeartbeats 800000 in
theorem rpos_any {v : Value} {w : World} {l : List Int} (hv : Rd (intE .u32) w v l) (hl : l.length ≤ 100000) (uid : Int) :
    Calls Try.prog 14 #[v, .int .u32 uid] w fun e w' => ∃ r : Int, e = .returned (.int .i64 r) ∧ RefPos l uid r ∧ New w w' := by
  obtain ⟨A, c, rfl, hlc, hcells⟩ := hv.ints
  have HC := Lib.hid hcells
  clear hcells hv
  go_enter Try.func14, Try.ntmps14
  go_wp2
  go_loopw [5] (fun vi wr => ∃ k : Nat, vi = .int .i64 k ∧ k ≤ l.length ∧ Hid (uid ∉ l.take k) ∧ New w wr) (fun vi _ => l.length - (intOf vi).toNat)
  case atStart => exact ⟨0, rfl, Nat.zero_le _, by simp [Hid], New.refl _⟩
  case round =>
    obtain ⟨k, rfl, hk, HS, hnew⟩ := hrel
    by_cases hlt : k < l.length
    · have hd : decide ((k : Int) < l.length) = true := decide_eq_true (by omega)
      obtain ⟨y, hy⟩ : ∃ y, l[k]? = some y := ⟨_, List.getElem?_eq_getElem hlt⟩
      obtain ⟨b, off, rfl, hcell⟩ := HC.out (by rintro rfl; simp at hlt)
      have cy : wr.cell? ⟨b, off + k, none⟩ = some (.int .u32 y) := Fr.cell hnew (hcell k y hy) id
      have cyn : ∀ n, (wr.drewN n).cell? ⟨b, off + k, none⟩ = some (.int .u32 y) := fun n => cy
      have hkI : (k : Int) < l.length := by omega
      have hw : IntKind.i64.wrap ((k : Int) + 1) = (k : Int) + 1 := IntWalk.i64_in _ (by omega)
      have HY := Lib.hid hy
      clear hcell hy
      cases hq : (y == uid)
      · have hne : uid ∉ l.take (k + 1) := by
          rw [List.take_add_one, HY.out]
          have h1 := HS.out
          have h2 : y ≠ uid := by simpa using hq
          simp [h1, Ne.symm h2]
        have HN := Lib.hid hne
        clear hne
        go_wp2
        go_roundw
        case rel => exact ⟨k + 1, by go_num, by omega, HN.out, by first | exact hnew | exact hnew.drewN _⟩
        case measure => simp [intOf]; omega
      · have HE := Lib.hid (by simpa using hq : y = uid)
        go_wp2
        go_ret
        exact ⟨_, rfl, .inr ⟨k, rfl, by rw [HY.out, HE.out], HS.out⟩, by first | exact hnew | exact hnew.drewN _⟩
    · have hd : decide ((k : Int) < l.length) = false := decide_eq_false (by omega)
      have hn : uid ∉ l := by
        have := HS.out
        rwa [List.take_of_length_le (by omega)] at this
      have HN := Lib.hid hn
      clear hn
      go_wp2
      go_ret
      exact ⟨_, rfl, .inl ⟨rfl, HN.out⟩, by first | exact hnew | exact hnew.drewN _⟩

set_option maxHeartbeats 1600000 in
theorem rremove_any {v : Value} {w : World} {l : List Int} (hv : Rd (intE .u32) w v l) (hl : l.length ≤ 100000) (uid : Int) :
    Calls Try.prog 18 #[v, .int .u32 uid] w fun e w' => ∃ o, e = .returned o ∧ Own (intE .u32) 28 w.heap.size w' o (l.filter fun y => y != uid) ∧ New w w' := by
  obtain ⟨i0, hi, hz0, hz1, hz2⟩ := info_parts u32_info
  obtain ⟨A, c, rfl, hlc, hcells⟩ := hv.ints
  have HC := Lib.hid hcells
  clear hcells hv
  go_enter Try.func18, Try.ntmps18
  go_wp2
  go_loopw [5, 6] (fun vo vi wr => ∃ k : Nat, vi = .int .i64 k ∧ k ≤ l.length ∧ Own (intE .u32) 28 w.heap.size wr vo ((l.take k).filter fun y => y != uid) ∧ New w wr) (fun _ vi _ => l.length - (intOf vi).toNat)
  case atStart => exact ⟨0, rfl, Nat.zero_le _, Own.nil _ _ _ _, New.refl _⟩
  case round =>
    obtain ⟨k, rfl, hk, hown, hnew⟩ := hrel
    have hfl : ((l.take k).filter fun y => y != uid).length ≤ 100000 := Nat.le_trans (List.length_filter_le _ _) (by rw [List.length_take]; omega)
    have hsz := hnew.size
    by_cases hlt : k < l.length
    · have hd : decide ((k : Int) < l.length) = true := decide_eq_true (by omega)
      obtain ⟨y, hy⟩ : ∃ y, l[k]? = some y := ⟨_, List.getElem?_eq_getElem hlt⟩
      obtain ⟨b, off, rfl, hcell⟩ := HC.out (by rintro rfl; simp at hlt)
      have cy : wr.cell? ⟨b, off + k, none⟩ = some (.int .u32 y) := Fr.cell hnew (hcell k y hy) id
      have hkI : (k : Int) < l.length := by omega
      have hw : IntKind.i64.wrap ((k : Int) + 1) = (k : Int) + 1 := IntWalk.i64_in _ (by omega)
      have htk : (l.take (k + 1)).filter (fun y => y != uid) = (l.take k).filter (fun y => y != uid) ++ (if y != uid then [y] else []) := by
        rw [List.take_add_one, hy, List.filter_append]
        simp [List.filter_cons]
      obtain ⟨m, hm⟩ : ∃ m, (l.take k).filter (fun y => y != uid) = m := ⟨_, rfl⟩
      rw [hm] at hown hfl htk
      have HTK := Lib.hid htk
      clear hcell hy htk hm
      obtain ⟨A0, N0, C0, rfl⟩ := own_shape hown
      cases hq : (y != uid)
      · rw [hq] at HTK
        have HQ := Lib.hid hq
        go_wp2
        go_roundw
        case rel => exact ⟨k + 1, by go_num, by omega, by rw [HTK.out]; simpa using hown, hnew⟩
        case measure => simp [intOf]; omega
      · rw [hq] at HTK
        go_wp2_with (at_builtin; refine wpList_push (E := intE .u32) rfl _ _ _ rfl Try.underlying22 hi hz0 hz1 hz2 rfl (hown.alloc _) rfl y wr.heap.size (Blk.new _ _ _) 1 rfl (by unfold maxLen; omega) (by omega) (by simp; omega) ?_; intro v2 w2 hv2 hf2 hl2)
        go_roundw
        case rel => exact ⟨k + 1, by go_num, by omega, by rw [HTK.out]; simpa using hv2, New.append (hnew.alloc _) (hown.alloc _) hf2⟩
        case measure => simp [intOf]; omega
    · have hd : decide ((k : Int) < l.length) = false := decide_eq_false (by omega)
      rw [List.take_of_length_le (by omega)] at hown
      obtain ⟨A0, N0, C0, rfl⟩ := own_shape hown
      have HO := Lib.hid hown
      clear hown hfl
      go_wp2
      go_ret
      exact ⟨_, rfl, HO.out, hnew⟩

set_option maxHeartbeats 1600000 in
theorem rbetween_any {v : Value} {w : World} {l : List Int} (hv : Rd (intE .u32) w v l) (hl : l.length ≤ 100000) (lo hi : Int) :
    Calls Try.prog 22 #[v, .int .u32 lo, .int .u32 hi] w fun e w' => ∃ o, e = .returned o ∧ Own (intE .u32) 28 w.heap.size w' o (l.filter fun y => decide (lo ≤ y) && decide (y ≤ hi)) ∧ New w w' := by
  obtain ⟨i0, hi', hz0, hz1, hz2⟩ := info_parts u32_info
  obtain ⟨A, c, rfl, hlc, hcells⟩ := hv.ints
  have HC := Lib.hid hcells
  clear hcells hv
  go_enter Try.func22, Try.ntmps22
  go_wp2
  go_loopw [7, 8] (fun vo vi wr => ∃ k : Nat, vi = .int .i64 k ∧ k ≤ l.length ∧ Own (intE .u32) 28 w.heap.size wr vo ((l.take k).filter fun y => decide (lo ≤ y) && decide (y ≤ hi)) ∧ New w wr) (fun _ vi _ => l.length - (intOf vi).toNat)
  case atStart => exact ⟨0, rfl, Nat.zero_le _, Own.nil _ _ _ _, New.refl _⟩
  case round =>
    obtain ⟨k, rfl, hk, hown, hnew⟩ := hrel
    have hfl : ((l.take k).filter fun y => decide (lo ≤ y) && decide (y ≤ hi)).length ≤ 100000 := Nat.le_trans (List.length_filter_le _ _) (by rw [List.length_take]; omega)
    have hsz := hnew.size
    by_cases hlt : k < l.length
    · have hd : decide ((k : Int) < l.length) = true := decide_eq_true (by omega)
      obtain ⟨y, hy⟩ : ∃ y, l[k]? = some y := ⟨_, List.getElem?_eq_getElem hlt⟩
      obtain ⟨b, off, rfl, hcell⟩ := HC.out (by rintro rfl; simp at hlt)
      have cy : wr.cell? ⟨b, off + k, none⟩ = some (.int .u32 y) := Fr.cell hnew (hcell k y hy) id
      have hkI : (k : Int) < l.length := by omega
      have hw : IntKind.i64.wrap ((k : Int) + 1) = (k : Int) + 1 := IntWalk.i64_in _ (by omega)
      have htk : (l.take (k + 1)).filter (fun y => decide (lo ≤ y) && decide (y ≤ hi)) = (l.take k).filter (fun y => decide (lo ≤ y) && decide (y ≤ hi)) ++ (if decide (lo ≤ y) && decide (y ≤ hi) then [y] else []) := by
        rw [List.take_add_one, hy, List.filter_append]
        simp [List.filter_cons]
      obtain ⟨m, hm⟩ : ∃ m, (l.take k).filter (fun y => decide (lo ≤ y) && decide (y ≤ hi)) = m := ⟨_, rfl⟩
      rw [hm] at hown hfl htk
      have HTK := Lib.hid htk
      clear hcell hy htk hm
      obtain ⟨A0, N0, C0, rfl⟩ := own_shape hown
      cases hq1 : decide (lo ≤ y) <;> cases hq2 : decide (y ≤ hi)
      all_goals rw [hq1, hq2] at HTK
      iterate 3
        · go_wp2
          go_roundw
          case rel => exact ⟨k + 1, by go_num, by omega, by rw [HTK.out]; simpa using hown, hnew⟩
          case measure => simp [intOf]; omega
      · go_wp2_with (at_builtin; refine wpList_push (E := intE .u32) rfl _ _ _ rfl Try.underlying22 hi' hz0 hz1 hz2 rfl (hown.alloc _) rfl y wr.heap.size (Blk.new _ _ _) 1 rfl (by unfold maxLen; omega) (by omega) (by simp; omega) ?_; intro v2 w2 hv2 hf2 hl2)
        go_roundw
        case rel => exact ⟨k + 1, by go_num, by omega, by rw [HTK.out]; simpa using hv2, New.append (hnew.alloc _) (hown.alloc _) hf2⟩
        case measure => simp [intOf]; omega
    · have hd : decide ((k : Int) < l.length) = false := decide_eq_false (by omega)
      rw [List.take_of_length_le (by omega)] at hown
      obtain ⟨A0, N0, C0, rfl⟩ := own_shape hown
      have HO := Lib.hid hown
      clear hown hfl
      go_wp2
      go_ret
      exact ⟨_, rfl, HO.out, hnew⟩

end Go.Proofs.Ytmhhmenhfocfjaa
