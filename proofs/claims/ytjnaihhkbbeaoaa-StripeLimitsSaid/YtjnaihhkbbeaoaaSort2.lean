/- The library's sort at uint32: the heap. -/
import Derived.Test.YtjnaihhkbbeaoaaSort1
namespace Go.Proofs.Ytjnaihhkbbeaoaa
open Go.RowKit Go.Sort

def sdChild (lt : Int → Int → Bool) (hi first root : Nat) (d : Array Int) : Nat := if 2 * root + 1 + 1 < hi && lt d[first + (2 * root + 1)]! d[first + (2 * root + 1) + 1]! then 2 * root + 1 + 1 else 2 * root + 1
theorem siftDown_stop' (lt : Int → Int → Bool) (hi first root : Nat) (d : Array Int) (h : hi ≤ 2 * root + 1) : siftDown lt hi first root d = d := by
  unfold siftDown
  rw [dif_pos (by omega)]
theorem siftDown_step' (lt : Int → Int → Bool) (hi first root : Nat) (d : Array Int) (h : 2 * root + 1 < hi) {ch : Nat} (hc : sdChild lt hi first root d = ch) :
    siftDown lt hi first root d = if lt d[first + root]! d[first + ch]! then siftDown lt hi first ch (swp d (first + root) (first + ch)) else d := by
  subst hc
  conv => lhs; unfold siftDown
  rw [dif_neg (by omega)]
  unfold sdChild
  by_cases h1 : (decide (2 * root + 1 + 1 < hi) && lt d[first + (2 * root + 1)]! d[first + (2 * root + 1) + 1]!) = true
  · rw [if_pos h1, if_pos h1]
    have h2 : 2 * root + 2 < hi := by simp at h1; omega
    rw [dif_pos h2]
    show (if (!lt d[first + root]! d[first + (2 * root + 2)]!) = true then d else siftDown lt hi first (2 * root + 2) (swp d (first + root) (first + (2 * root + 2)))) = if lt d[first + root]! d[first + (2 * root + 2)]! = true then siftDown lt hi first (2 * root + 2) (swp d (first + root) (first + (2 * root + 2))) else d
    cases lt d[first + root]! d[first + (2 * root + 2)]! <;> simp
  · rw [if_neg h1, if_neg h1]
    cases lt d[first + root]! d[first + (2 * root + 1)]! <;> simp

set_option maxRecDepth 100000 in
set_option maxHeartbeats 1600000 in
theorem sift_any {te : TypeId} {base g c : Nat} {w : World} {d : Array Int} (h : SRow te base w g c d) (lo hi first : Nat) (hlo : lo ≤ 1000000) (hhi : first + hi ≤ d.size) (hn : d.size ≤ 1000000) :
    Calls Try.prog 71 #[.slice (some ⟨g, 0, none⟩) d.size c, .int .i64 lo, .int .i64 hi, .int .i64 first] w fun e w' => e = .returned (.tuple #[]) ∧ SRow te base w' g c (siftDown ltInt hi first lo d) ∧ (siftDown ltInt hi first lo d).size = d.size ∧ One g w w' := by
  go_enter Try.func71, Try.ntmps71
  go_wp2
  go_loopw [8] (fun vr wr => ∃ (root : Nat) (dk : Array Int), vr = .int .i64 root ∧ root ≤ 1000000 ∧ dk.size = d.size ∧ SRow te base wr g c dk ∧ One g w wr ∧ Hid (siftDown ltInt hi first root dk = siftDown ltInt hi first lo d)) (fun vr _ => hi - (intOf vr).toNat)
  case atStart => exact ⟨lo, d, rfl, hlo, rfl, h, One.refl _ _, rfl⟩
  case round =>
    obtain ⟨root, dk, rfl, hr, hsk, hR, hO, HE⟩ := hrel
    clear h
    by_cases hc1 : hi ≤ 2 * root + 1
    · have hE := HE.out
      rw [siftDown_stop' _ _ _ _ _ hc1] at hE
      have HE2 := Lib.hid hE
      clear hE
      go_wp2
      go_end0
      exact ⟨rfl, by rw [← HE2.out]; exact hR, by rw [← HE2.out]; exact hsk, hO⟩
    · have hf := fun ch hc => siftDown_step' ltInt hi first root dk (by omega) (ch := ch) hc
      have HF0 := Lib.hid hf
      clear hf
      obtain ⟨x, hx⟩ : ∃ x, dk[first + root]! = x := ⟨_, rfl⟩
      have hcx := fun m => (hR.drewN m).cell (t := first + root) (by omega)
      have hfx := fun m => (hR.drewN m).frozen (first + root)
      rw [hx] at hcx
      have hd1 : decide ((hi : Int) ≤ 2 * (root : Int) + 1) = false := decide_eq_false (by omega)
      by_cases hc2 : 2 * root + 1 + 1 < hi
      · obtain ⟨u, hu⟩ : ∃ u, dk[first + (2 * root + 1)]! = u := ⟨_, rfl⟩
        obtain ⟨v, hv⟩ : ∃ v, dk[first + (2 * root + 1) + 1]! = v := ⟨_, rfl⟩
        have hcu := fun m => (hR.drewN m).cell (t := first + (2 * root + 1)) (by omega)
        have hcv := fun m => (hR.drewN m).cell (t := first + (2 * root + 1) + 1) (by omega)
        rw [hu] at hcu
        rw [hv] at hcv
        have hd2 : decide (2 * (root : Int) + 1 + 1 < hi) = true := decide_eq_true (by omega)
        obtain ⟨q1, hq1⟩ : ∃ q, ltInt u v = q := ⟨_, rfl⟩
        have hless1 : ∀ n, Calls Try.prog 58 #[.int .u32 u, .int .u32 v] (wr.drewN n) fun e w' => e = .returned (.bool q1) ∧ w' = wr.drewN n := fun n => by rw [← hq1]; exact less_any u v _
        have HLS1 := Lib.hid hless1
        have hsd : sdChild ltInt hi first root dk = if q1 then 2 * root + 1 + 1 else 2 * root + 1 := by
          unfold sdChild
          rw [hu, hv, hq1, decide_eq_true hc2, Bool.true_and]
        have HSD := Lib.hid hsd
        have HU := Lib.hid hu
        clear hless1 hq1 hu hv hsd
        cases q1
        · have HF := Lib.hid (fun (_ : True) => HF0.out (2 * root + 1) HSD.out)
          clear HF0 HSD
          have hF := HF.out trivial
          obtain ⟨y, hy⟩ : ∃ y, dk[first + (2 * root + 1)]! = y := ⟨_, rfl⟩
          obtain rfl : y = u := hy.symm.trans HU.out
          have hcy := fun m => (hR.drewN m).cell (t := first + (2 * root + 1)) (by omega)
          have hfy := fun m => (hR.drewN m).frozen (first + (2 * root + 1))
          have hsw := fun m => hR.two m (first + root) (first + (2 * root + 1))
          have hone := fun m => One.two hO m (first + root) (first + (2 * root + 1)) (.int .u32 dk[first + (2 * root + 1)]!) (.int .u32 dk[first + root]!)
          have HSW := Lib.hid hsw
          have HONE := Lib.hid hone
          have HF2 := Lib.hid hF
          clear hsw hone hF
          rw [hy] at hcy HSW HONE HF2
          rw [hx] at HSW HONE HF2
          have HX := Lib.hid hx
          have HY := Lib.hid hy
          clear hx hy
          have s1 : IntKind.i64.wrap ((first : Int) + root) = (first : Int) + root := IntWalk.i64_in _ (by omega)
          have s2 : ((first : Int) + root).toNat = first + root := by omega
          have s3 : 0 ≤ (first : Int) + root := by omega
          have s4 : IntKind.i64.wrap ((first : Int) + (2 * (root : Int) + 1)) = (first : Int) + (2 * (root : Int) + 1) := IntWalk.i64_in _ (by omega)
          have s5 : ((first : Int) + (2 * (root : Int) + 1)).toNat = first + (2 * root + 1) := by omega
          have s6 : 0 ≤ (first : Int) + (2 * (root : Int) + 1) := by omega
          have s7 : (first : Int) + root < (d.size : Int) := by omega
          have s8 : (first : Int) + (2 * (root : Int) + 1) < (d.size : Int) := by omega
          have s9 : first + root < d.size := by omega
          have s10 : first + (2 * root + 1) < d.size := by omega
          obtain ⟨q, hq⟩ : ∃ q, ltInt x y = q := ⟨_, rfl⟩
          rw [hq] at HF2
          have hless : ∀ W, Calls Try.prog 58 #[.int .u32 x, .int .u32 y] W fun e w' => e = .returned (.bool q) ∧ w' = W := fun W => by rw [← hq]; exact less_any x y _
          have HLS := Lib.hid hless
          clear hless hq
          cases q
          · go_wp2_with fail
            go_quiet (first | (go_at_call 58; refine Calls.quiet_of_same (HLS1.out _)))
            go_wp2_with fail
            go_quiet ((go_at_call 58; with_reducible (first | exact quiet1 HLS.out | exact quiet2 HLS.out | exact quiet3 HLS.out)))
            go_wp2
            refine bodyPost_ret (results_none rfl _ _ _) rfl ?_
            have hf := HF2.out
            rw [if_neg (by simp)] at hf
            have hfs : siftDown ltInt hi first lo d = dk := by rw [← HE.out, hf]
            rw [hfs]
            first
              | exact ⟨rfl, hR.drewN _, hsk, Fr.drewN hO _⟩
              | exact ⟨rfl, (hR.drewN _).drewN _, hsk, Fr.drewN (Fr.drewN hO _) _⟩
          · go_wp2_with fail
            go_quiet (first | (go_at_call 58; refine Calls.quiet_of_same (HLS1.out _)))
            go_wp2_with fail
            go_quiet ((go_at_call 58; with_reducible (first | exact quiet1 HLS.out | exact quiet2 HLS.out | exact quiet3 HLS.out)))
            go_wp2
            go_region
            all_goals go_wp2
            go_roundw
            case rel =>
              refine ⟨2 * root + 1, swp dk (first + root) (first + (2 * root + 1)), by go_num, by omega, by rw [swp_size]; exact hsk, HSW.out _, HONE.out _, ?_⟩
              have hf := HF2.out
              first | rw [if_pos rfl] at hf | rw [if_pos True.intro] at hf
              show siftDown ltInt hi first (2 * root + 1) (swp dk (first + root) (first + (2 * root + 1))) = _
              rw [← HE.out, hf]
            case measure => simp [intOf]; omega
        · have HF := Lib.hid (fun (_ : True) => HF0.out (2 * root + 1 + 1) HSD.out)
          clear HF0 HSD
          have hF := HF.out trivial
          obtain ⟨y, hy⟩ : ∃ y, dk[first + (2 * root + 1 + 1)]! = y := ⟨_, rfl⟩
          have hcy := fun m => (hR.drewN m).cell (t := first + (2 * root + 1 + 1)) (by omega)
          have hfy := fun m => (hR.drewN m).frozen (first + (2 * root + 1 + 1))
          have hsw := fun m => hR.two m (first + root) (first + (2 * root + 1 + 1))
          have hone := fun m => One.two hO m (first + root) (first + (2 * root + 1 + 1)) (.int .u32 dk[first + (2 * root + 1 + 1)]!) (.int .u32 dk[first + root]!)
          have HSW := Lib.hid hsw
          have HONE := Lib.hid hone
          have HF2 := Lib.hid hF
          clear hsw hone hF
          rw [hy] at hcy HSW HONE HF2
          rw [hx] at HSW HONE HF2
          have HX := Lib.hid hx
          have HY := Lib.hid hy
          clear hx hy
          have s1 : IntKind.i64.wrap ((first : Int) + root) = (first : Int) + root := IntWalk.i64_in _ (by omega)
          have s2 : ((first : Int) + root).toNat = first + root := by omega
          have s3 : 0 ≤ (first : Int) + root := by omega
          have s4 : IntKind.i64.wrap ((first : Int) + (2 * (root : Int) + 1 + 1)) = (first : Int) + (2 * (root : Int) + 1 + 1) := IntWalk.i64_in _ (by omega)
          have s5 : ((first : Int) + (2 * (root : Int) + 1 + 1)).toNat = first + (2 * root + 1 + 1) := by omega
          have s6 : 0 ≤ (first : Int) + (2 * (root : Int) + 1 + 1) := by omega
          have s7 : (first : Int) + root < (d.size : Int) := by omega
          have s8 : (first : Int) + (2 * (root : Int) + 1 + 1) < (d.size : Int) := by omega
          have s9 : first + root < d.size := by omega
          have s10 : first + (2 * root + 1 + 1) < d.size := by omega
          obtain ⟨q, hq⟩ : ∃ q, ltInt x y = q := ⟨_, rfl⟩
          rw [hq] at HF2
          have hless : ∀ W, Calls Try.prog 58 #[.int .u32 x, .int .u32 y] W fun e w' => e = .returned (.bool q) ∧ w' = W := fun W => by rw [← hq]; exact less_any x y _
          have HLS := Lib.hid hless
          clear hless hq
          cases q
          · go_wp2_with fail
            go_quiet (first | (go_at_call 58; refine Calls.quiet_of_same (HLS1.out _)))
            go_wp2_with fail
            go_quiet ((go_at_call 58; with_reducible (first | exact quiet1 HLS.out | exact quiet2 HLS.out | exact quiet3 HLS.out)))
            go_wp2
            refine bodyPost_ret (results_none rfl _ _ _) rfl ?_
            have hf := HF2.out
            rw [if_neg (by simp)] at hf
            have hfs : siftDown ltInt hi first lo d = dk := by rw [← HE.out, hf]
            rw [hfs]
            first
              | exact ⟨rfl, hR.drewN _, hsk, Fr.drewN hO _⟩
              | exact ⟨rfl, (hR.drewN _).drewN _, hsk, Fr.drewN (Fr.drewN hO _) _⟩
          · go_wp2_with fail
            go_quiet (first | (go_at_call 58; refine Calls.quiet_of_same (HLS1.out _)))
            go_wp2_with fail
            go_quiet ((go_at_call 58; with_reducible (first | exact quiet1 HLS.out | exact quiet2 HLS.out | exact quiet3 HLS.out)))
            go_wp2
            go_region
            all_goals go_wp2
            go_roundw
            case rel =>
              refine ⟨2 * root + 1 + 1, swp dk (first + root) (first + (2 * root + 1 + 1)), by go_num, by omega, by rw [swp_size]; exact hsk, HSW.out _, HONE.out _, ?_⟩
              have hf := HF2.out
              first | rw [if_pos rfl] at hf | rw [if_pos True.intro] at hf
              show siftDown ltInt hi first (2 * root + 1 + 1) (swp dk (first + root) (first + (2 * root + 1 + 1))) = _
              rw [← HE.out, hf]
            case measure => simp [intOf]; omega
      · have hd2 : decide (2 * (root : Int) + 1 + 1 < hi) = false := decide_eq_false (by omega)
        have hsd : sdChild ltInt hi first root dk = 2 * root + 1 := by
          unfold sdChild
          rw [decide_eq_false hc2, Bool.false_and, if_neg (by simp)]
        have HF := Lib.hid (fun (_ : True) => HF0.out (2 * root + 1) hsd)
        clear HF0 hsd
        have hF := HF.out trivial
        obtain ⟨y, hy⟩ : ∃ y, dk[first + (2 * root + 1)]! = y := ⟨_, rfl⟩
        have hcy := fun m => (hR.drewN m).cell (t := first + (2 * root + 1)) (by omega)
        have hfy := fun m => (hR.drewN m).frozen (first + (2 * root + 1))
        have hsw := fun m => hR.two m (first + root) (first + (2 * root + 1))
        have hone := fun m => One.two hO m (first + root) (first + (2 * root + 1)) (.int .u32 dk[first + (2 * root + 1)]!) (.int .u32 dk[first + root]!)
        have HSW := Lib.hid hsw
        have HONE := Lib.hid hone
        have HF2 := Lib.hid hF
        clear hsw hone hF
        rw [hy] at hcy HSW HONE HF2
        rw [hx] at HSW HONE HF2
        have HX := Lib.hid hx
        have HY := Lib.hid hy
        clear hx hy
        have s1 : IntKind.i64.wrap ((first : Int) + root) = (first : Int) + root := IntWalk.i64_in _ (by omega)
        have s2 : ((first : Int) + root).toNat = first + root := by omega
        have s3 : 0 ≤ (first : Int) + root := by omega
        have s4 : IntKind.i64.wrap ((first : Int) + (2 * (root : Int) + 1)) = (first : Int) + (2 * (root : Int) + 1) := IntWalk.i64_in _ (by omega)
        have s5 : ((first : Int) + (2 * (root : Int) + 1)).toNat = first + (2 * root + 1) := by omega
        have s6 : 0 ≤ (first : Int) + (2 * (root : Int) + 1) := by omega
        have s7 : (first : Int) + root < (d.size : Int) := by omega
        have s8 : (first : Int) + (2 * (root : Int) + 1) < (d.size : Int) := by omega
        have s9 : first + root < d.size := by omega
        have s10 : first + (2 * root + 1) < d.size := by omega
        obtain ⟨q, hq⟩ : ∃ q, ltInt x y = q := ⟨_, rfl⟩
        rw [hq] at HF2
        have hless : ∀ W, Calls Try.prog 58 #[.int .u32 x, .int .u32 y] W fun e w' => e = .returned (.bool q) ∧ w' = W := fun W => by rw [← hq]; exact less_any x y _
        have HLS := Lib.hid hless
        clear hless hq
        cases q
        · go_wp2_with fail
          go_quiet (fail)
          go_wp2_with fail
          go_quiet ((go_at_call 58; with_reducible (first | exact quiet1 HLS.out | exact quiet2 HLS.out | exact quiet3 HLS.out)))
          go_wp2
          refine bodyPost_ret (results_none rfl _ _ _) rfl ?_
          have hf := HF2.out
          rw [if_neg (by simp)] at hf
          have hfs : siftDown ltInt hi first lo d = dk := by rw [← HE.out, hf]
          rw [hfs]
          first
            | exact ⟨rfl, hR.drewN _, hsk, Fr.drewN hO _⟩
            | exact ⟨rfl, (hR.drewN _).drewN _, hsk, Fr.drewN (Fr.drewN hO _) _⟩
        · go_wp2_with fail
          go_quiet (fail)
          go_wp2_with fail
          go_quiet ((go_at_call 58; with_reducible (first | exact quiet1 HLS.out | exact quiet2 HLS.out | exact quiet3 HLS.out)))
          go_wp2
          go_region
          all_goals go_wp2
          go_roundw
          case rel =>
            refine ⟨2 * root + 1, swp dk (first + root) (first + (2 * root + 1)), by go_num, by omega, by rw [swp_size]; exact hsk, HSW.out _, HONE.out _, ?_⟩
            have hf := HF2.out
            first | rw [if_pos rfl] at hf | rw [if_pos True.intro] at hf
            show siftDown ltInt hi first (2 * root + 1) (swp dk (first + root) (first + (2 * root + 1))) = _
            rw [← HE.out, hf]
          case measure => simp [intOf]; omega

end Go.Proofs.Ytjnaihhkbbeaoaa
