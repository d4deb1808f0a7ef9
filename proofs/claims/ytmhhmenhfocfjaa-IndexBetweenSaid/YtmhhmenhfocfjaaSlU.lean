/- slices.Equal and slices.Clone at []uint32. -/
import Derived.Test.YtmhhmenhfocfjaaRows
import Derived.Test.YtmhhmenhfocfjaaInts
import Derived.Test.YtmhhmenhfocfjaaMore
import Derived.WalkKit
import Derived.WalkSpells
import Derived.WalkLawsBesides
import Derived.Deep.QuietTactic
import Derived.BigQuiet
import Derived.Lib.Hide
import Derived.Lib.SliceRun
namespace Go.Proofs.Ytmhhmenhfocfjaa
open Go.RowKit

set_option maxHeartbeats 1600000 in
theorem uequal_any (v u : Value) (l m : List Int) (w : World) (hv : Rd (intE .u32) w v l) (hu : Rd (intE .u32) w u m) (hl : l.length ≤ 1000000) (hm : m.length ≤ 1000000) :
    Calls Try.prog 19 #[v, u] w fun e w' => e = .returned (.bool (decide (l = m))) ∧ New w w' := by
  obtain ⟨A, c, rfl, hc, hA⟩ := hv.ints
  obtain ⟨B, d, rfl, hd, hB⟩ := hu.ints
  have HA := Lib.hid hA
  have HB := Lib.hid hB
  clear hA hB hv hu
  by_cases hlm : l.length = m.length
  · generalize hq : decide (l = m) = q
    have HQ := Lib.hid hq
    have HLM := Lib.hid hlm
    rw [← hlm]
    rw [← hlm] at hm
    clear hq hlm
    go_enter Try.func19, Try.ntmps19
    go_wp2
    go_loopw [13] (fun vi wr => ∃ k : Nat, k ≤ l.length ∧ vi = .int .i64 k ∧ Hid (∀ i, i < k → l[i]? = m[i]?) ∧ New w wr) (fun vi _ => l.length - (intOf vi).toNat)
    case atStart => exact ⟨0, Nat.zero_le _, rfl, fun i hi => by omega, New.refl _⟩
    case round =>
      obtain ⟨k, hk, rfl, HS, hnew⟩ := hrel
      by_cases hkl : k < l.length
      · obtain ⟨x, hx⟩ : ∃ x, l[k]? = some x := ⟨_, List.getElem?_eq_getElem hkl⟩
        obtain ⟨y, hy⟩ : ∃ y, m[k]? = some y := ⟨_, List.getElem?_eq_getElem (by have := HLM.out; omega)⟩
        obtain ⟨b, off, rfl, hcell⟩ := HA.out (by rintro rfl; simp at hkl)
        obtain ⟨b', off', rfl, hcell'⟩ := HB.out (by rintro rfl; simp at hy)
        have c0 : wr.cell? ⟨b, off + k, none⟩ = some (.int .u32 x) := Fr.cell hnew (hcell k _ hx) id
        have d0 : wr.cell? ⟨b', off' + k, none⟩ = some (.int .u32 y) := Fr.cell hnew (hcell' k _ hy) id
        have HX := Lib.hid hx
        have HY := Lib.hid hy
        clear hcell hcell' hx hy
        cases hxy : (x != y)
        all_goals
          have HXY := Lib.hid hxy
          go_wp2_with fail
          go_quiet (fail)
          go_wp2
        · go_roundw
          case rel =>
            refine ⟨k + 1, by omega, by go_num, fun i hi => ?_, hnew.drewN _⟩
            rcases Nat.lt_or_ge i k with h | h
            · exact HS.out i h
            · obtain rfl : i = k := by omega
              have : x = y := by simpa using HXY.out
              rw [HX.out, HY.out, this]
          case measure => simp [intOf]; omega
        · go_ret
          have hne : q = false := by
            rw [← HQ.out]
            refine decide_eq_false fun e => ?_
            have h1 := HX.out
            rw [e, HY.out] at h1
            injection h1 with h1
            have h2 : x ≠ y := by simpa using HXY.out
            exact h2 h1.symm
          rw [hne]
          exact ⟨rfl, hnew.drewN _⟩
      · go_wp2
        go_ret
        have he : q = true := by
          rw [← HQ.out]
          refine decide_eq_true (List.ext_getElem? fun i => ?_)
          rcases Nat.lt_or_ge i k with h | h
          · exact HS.out i h
          · rw [List.getElem?_eq_none (by omega), List.getElem?_eq_none (by have := HLM.out; omega)]
        rw [he]
        exact ⟨rfl, hnew⟩
  · have hne : decide (l = m) = false := decide_eq_false fun e => hlm (by rw [e])
    rw [hne]
    have hb : ((l.length : Int) != (m.length : Int)) = true := by simp; omega
    clear hne hlm
    go_enter Try.func19, Try.ntmps19
    go_wp2
    go_ret
    exact ⟨rfl, New.refl _⟩

theorem u32_info : (Try.prog.info? 28).map (fun i => (i.zero, i.size, i.bytes)) = some (some (.int .u32 0), 1, 4) := by kernel_rfl

set_option maxHeartbeats 1600000 in
theorem uclone_any (v : Value) (l : List Int) (w : World) (hv : Rd (intE .u32) w v l) (hl : l.length ≤ 100000) :
    Calls Try.prog 28 #[v] w fun e w' => ∃ o, e = .returned o ∧ Own (intE .u32) 28 w.heap.size w' o l ∧ New w w' := by
  obtain ⟨i0, hi, hz0, hz1, hz2⟩ := info_parts u32_info
  have h0 := Own.empty (intE .u32) 28 w.heap.size w (Nat.le_refl _)
  have HV := Lib.hid hv
  obtain ⟨A, c, rfl, hc, hcells⟩ := hv
  have hq := fun n => Lib.run_eql_slice_nil (P := Try.prog) w 22 _ A n c 0 0 Try.underlying22
  cases A with
  | none =>
    have hn : l = [] := by
      cases l with
      | nil => rfl
      | cons x l => obtain ⟨b, off, h, _⟩ := hcells (by simp); cases h
    clear hcells
    subst hn
    simp only [Option.isNone_none] at hq
    go_enter Try.func28, Try.ntmps28
    go_wp2
    go_ret
    exact ⟨_, rfl, Own.nil _ _ _ _, New.refl _⟩
  | some ad =>
    obtain ⟨b, off, sp⟩ := ad
    clear hcells
    simp only [Option.isNone_some] at hq
    go_enter Try.func28, Try.ntmps28
    go_wp2_with (at_builtin; refine wpList_append (E := intE .u32) rfl _ _ _ rfl Try.underlying22 hi hz0 hz1 hz2 rfl h0 rfl (HV.out.alloc _) rfl (by unfold maxLen; simp; omega) (by simp; omega) (by simp) ?_; intro v1 w1 hv1 hf1 hl1)
    have hn1 : New w w1 := New.append ((New.refl w).alloc _) h0 hf1
    rw [List.nil_append] at hv1
    go_ret
    exact ⟨_, rfl, hv1, hn1⟩

end Go.Proofs.Ytmhhmenhfocfjaa
