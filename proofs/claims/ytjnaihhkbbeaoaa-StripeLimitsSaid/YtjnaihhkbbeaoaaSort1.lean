/- The library's sort at uint32: Less, the insertion sort. -/
import Derived.Test.YtjnaihhkbbeaoaaRows
import Derived.Test.YtjnaihhkbbeaoaaSortP
import Derived.Test.YtjnaihhkbbeaoaaMore
import Derived.WalkKit
import Derived.WalkSpells
import Derived.WalkLawsBesides
import Derived.Deep.QuietTactic
import Derived.BigQuiet
import Derived.BigGuard
import Derived.RegionTactic
import Derived.Lib.Hide
namespace Go.Proofs.Ytjnaihhkbbeaoaa
open Go.RowKit Go.Sort

set_option maxHeartbeats 400000 in
theorem isnan_any (x : Int) (w : World) : Calls Try.prog 76 #[.int .u32 x] w fun e w' => e = .returned (.bool false) ∧ w' = w := by
  go_enter Try.func76, Try.ntmps76
  go_wp2
  go_ret
  exact ⟨by simp, rfl⟩

set_option maxHeartbeats 400000 in
theorem less_any (x y : Int) (w : World) : Calls Try.prog 58 #[.int .u32 x, .int .u32 y] w fun e w' => e = .returned (.bool (ltInt x y)) ∧ w' = w := by
  go_enter Try.func58, Try.ntmps58
  go_wp2_with (go_at_call 76; refine (isnan_any _ _).mono ?_; rintro e w' ⟨rfl, rfl⟩)
  go_ret
  exact ⟨rfl, rfl⟩

/-- A call that leaves the world alone, in a region behind one that has drawn. -/
theorem quiet2 {P : Program} {f : FuncId} {args : Array Value} {w : World} {a n : Nat} {v : Value} (h : ∀ W, Calls P f args W fun e w' => e = .returned v ∧ w' = W) :
    Calls P f args (w.drewN (a + n)) fun e w'' => e = .returned v ∧ ∃ m, w'' = w.drewN (a + m) :=
  (h _).mono fun _ _ ⟨he, hw⟩ => ⟨he, n, hw⟩

theorem quiet1 {P : Program} {f : FuncId} {args : Array Value} {w : World} {n : Nat} {v : Value} (h : ∀ W, Calls P f args W fun e w' => e = .returned v ∧ w' = W) :
    Calls P f args (w.drewN n) fun e w'' => e = .returned v ∧ ∃ m, w'' = w.drewN m :=
  (h _).mono fun _ _ ⟨he, hw⟩ => ⟨he, n, hw⟩
theorem quiet3 {P : Program} {f : FuncId} {args : Array Value} {w : World} {a n : Nat} {v : Value} (h : ∀ W, Calls P f args W fun e w' => e = .returned v ∧ w' = W) :
    Calls P f args (w.drewN (a + n)) fun e w'' => e = .returned v ∧ ∃ m, w'' = (w.drewN a).drewN m :=
  (h _).mono fun _ _ ⟨he, hw⟩ => ⟨he, n, by rw [hw, World.drewN_drewN]⟩

set_option maxHeartbeats 3200000 in
theorem insertion_any {te : TypeId} {base g c : Nat} {w : World} {d : Array Int} (h : SRow te base w g c d) (a b : Nat) (hab : a ≤ b) (hb : b ≤ d.size) (hn : d.size ≤ 1000000) :
    Calls Try.prog 52 #[.slice (some ⟨g, 0, none⟩) d.size c, .int .i64 a, .int .i64 b] w fun e w' => e = .returned (.tuple #[]) ∧ SRow te base w' g c (insertionSort ltInt d a b) ∧ (insertionSort ltInt d a b).size = d.size ∧ One g w w' := by
  go_enter Try.func52, Try.ntmps52
  go_wp2
  go_loopw [6] (fun vi wr => ∃ (i : Nat) (dk : Array Int), vi = .int .i64 i ∧ a < i ∧ i ≤ b + 1 ∧ dk.size = d.size ∧ SRow te base wr g c dk ∧ One g w wr ∧ Hid (insOuter ltInt a b i dk = insertionSort ltInt d a b)) (fun vi _ => b + 1 - (intOf vi).toNat)
  case atStart => exact ⟨a + 1, d, by go_num, by omega, by omega, rfl, h, One.refl _ _, rfl⟩
  case round =>
    obtain ⟨i, dk, rfl, hai, hib, hsk, hR, hO, HE⟩ := hrel
    clear h
    by_cases hlt : i < b
    · go_wp2
      obtain ⟨wo, rfl⟩ : ∃ wo : World, wo = wr := ⟨_, rfl⟩
      go_loopw [7] (fun vj wr => ∃ (j : Nat) (dj : Array Int), vj = .int .i64 j ∧ a ≤ j ∧ j ≤ i ∧ dj.size = d.size ∧ SRow te base wr g c dj ∧ One g w wr ∧ Hid (insInner ltInt a j dj = insInner ltInt a i dk)) (fun vj _ => (intOf vj).toNat)
      case atStart => exact ⟨i, dk, rfl, by omega, Nat.le_refl _, hsk, hR, hO, rfl⟩
      case round =>
        obtain ⟨j, dj, rfl, haj, hji, hsj, hRj, hOj, HI⟩ := hrel
        clear hR hO
        have HE' := Lib.hid (insOuter_go' (lt := ltInt) a b i dk hlt)
        by_cases hja : a < j
        · have hjd : j < dj.size := by omega
          have hcw := fun n => (hRj.drewN n).cell (t := j) hjd
          have hcv := fun n => (hRj.drewN n).cell (t := j - 1) (by omega)
          have hfw := fun n => (hRj.drewN n).frozen j
          have hfv := fun n => (hRj.drewN n).frozen (j - 1)
          have hj1 : IntKind.i64.wrap ((j : Int) - 1) = (j : Int) - 1 := IntWalk.i64_in _ (by omega)
          have hj2 : ((j : Int) - 1).toNat = j - 1 := by omega
          have hj3 : 0 ≤ (j : Int) - 1 := by omega
          have hdj : decide (a < j) = true := decide_eq_true hja
          have hdi : decide ((a : Int) < j) = true := decide_eq_true (by omega)
          have hsw := fun n => hRj.two n j (j - 1)
          have hone := fun n => One.two hOj n j (j - 1) (.int .u32 dj[j - 1]!) (.int .u32 dj[j]!)
          have HSW := Lib.hid hsw
          have HONE := Lib.hid hone
          have hout := fun (h : ltInt dj[j]! dj[j - 1]! = false) => insInner_stop' (lt := ltInt) a j dj (.inr h)
          have hgo := fun (h : ltInt dj[j]! dj[j - 1]! = true) => insInner_go' (lt := ltInt) a j dj hja h
          have HOUT := Lib.hid hout
          have HGO := Lib.hid hgo
          clear hsw hout hgo hone
          obtain ⟨x, hx⟩ : ∃ x, dj[j]! = x := ⟨_, rfl⟩
          obtain ⟨y, hy⟩ : ∃ y, dj[j - 1]! = y := ⟨_, rfl⟩
          rw [hx] at hcw HSW HOUT HGO HONE
          rw [hy] at hcv HSW HOUT HGO HONE
          clear hx hy
          obtain ⟨q, hq⟩ : ∃ q, ltInt x y = q := ⟨_, rfl⟩
          rw [hq] at HOUT HGO
          have hless : ∀ n, Calls Try.prog 58 #[.int .u32 x, .int .u32 y] (wr.drewN n) fun e w' => e = .returned (.bool q) ∧ w' = wr.drewN n := fun n => by rw [← hq]; exact less_any x y _
          have HLS := Lib.hid hless
          clear hless hq
          cases q
          · go_wp2_with fail
            go_quiet (first | (go_at_call 58; refine Calls.quiet_of_same (HLS.out _)))
            go_wp2
            go_roundw
            case rel =>
              refine ⟨i + 1, dj, by go_num, by omega, by omega, hsj, hRj.drewN _, hOj.drewN _, ?_⟩
              show insOuter ltInt a b (i + 1) dj = _
              rw [← HE.out, HE'.out, ← HI.out, HOUT.out trivial]
            case measure => simp [intOf]; omega
          · go_wp2_with fail
            go_quiet (first | (go_at_call 58; refine Calls.quiet_of_same (HLS.out _)))
            go_wp2
            go_region
            all_goals go_wp2
            go_roundw
            case rel =>
              refine ⟨j - 1, swp dj j (j - 1), by congr 1; omega, by omega, by omega, by rw [swp_size]; exact hsj, ?_, HONE.out _, ?_⟩
              · exact HSW.out _
              · show insInner ltInt a (j - 1) (swp dj j (j - 1)) = _
                rw [← HI.out, HGO.out trivial]
            case measure => simp [intOf]; omega
        · have hdj : decide (a < j) = false := decide_eq_false hja
          have hdi : decide ((a : Int) < j) = false := decide_eq_false (by omega)
          have hout := insInner_stop' (lt := ltInt) a j dj (.inl (by omega))
          have HOUT := Lib.hid hout
          clear hout
          go_wp2_with fail
          go_quiet (fail)
          go_wp2
          go_roundw
          case rel =>
            refine ⟨i + 1, dj, by go_num, by omega, by omega, hsj, hRj.drewN _, hOj.drewN _, ?_⟩
            show insOuter ltInt a b (i + 1) dj = _
            rw [← HE.out, HE'.out, ← HI.out, HOUT.out]
          case measure => simp [intOf]; omega
    · have hE := HE.out
      rw [insOuter_stop' _ _ _ _ hlt] at hE
      have HE2 := Lib.hid hE
      clear hE
      go_wp2
      go_end0
      exact ⟨rfl, by rw [← HE2.out]; exact hR, by rw [← HE2.out]; exact hsk, hO⟩

end Go.Proofs.Ytjnaihhkbbeaoaa
