/- The library's sort at uint32: the heap sort, the reversal. -/
import Derived.Test.YtjnaihhkbbeaoaaSort2
namespace Go.Proofs.Ytjnaihhkbbeaoaa
open Go.RowKit Go.Sort

theorem siftDown_size (lt : Int → Int → Bool) (hi first root : Nat) (d : Array Int) : (siftDown lt hi first root d).size = d.size := by
  induction hm : hi - root using Nat.strongRecOn generalizing root d with
  | ind m ih =>
    by_cases h : hi ≤ 2 * root + 1
    · rw [siftDown_stop' _ _ _ _ _ h]
    · have hc : root < sdChild lt hi first root d := by unfold sdChild; split <;> omega
      have hc2 : sdChild lt hi first root d < hi := by
        unfold sdChild
        split
        · rename_i h1; simp at h1; omega
        · omega
      rw [siftDown_step' _ _ _ _ _ (by omega) rfl]
      split
      · rw [ih (hi - sdChild lt hi first root d) (by omega) _ _ rfl, swp_size]
      · rfl

set_option maxRecDepth 100000 in
set_option maxHeartbeats 1600000 in
theorem heap_any {te : TypeId} {base g c : Nat} {w : World} {d : Array Int} (h : SRow te base w g c d) (a b m : Nat) (hm : b = a + m) (hb : b ≤ d.size) (hn : d.size ≤ 1000000) :
    Calls Try.prog 53 #[.slice (some ⟨g, 0, none⟩) d.size c, .int .i64 a, .int .i64 b] w fun e w' => e = .returned (.tuple #[]) ∧ SRow te base w' g c (heapSort ltInt d a b) ∧ (heapSort ltInt d a b).size = d.size ∧ One g w w' := by
  have hbm : (b : Int) - (a : Int) = m := by omega
  have hres : heapSort ltInt d a b = heapPop ltInt a m (heapBuild ltInt m a ((m - 1) / 2 + 1) d) := by
    unfold heapSort
    rw [show b - a = m by omega]
  rw [hres]
  have hq : IntKind.i64.wrap ((m : Int) - 1) = (m : Int) - 1 := IntWalk.i64_in _ (by omega)
  have hq2 : ((m : Int) - 1).tdiv 2 = (((m - 1) / 2 + 1 : Nat) : Int) - 1 := by
    rcases Nat.eq_zero_or_pos m with rfl | hp
    · decide
    · obtain ⟨j, rfl⟩ : ∃ j, m = j + 1 := ⟨m - 1, by omega⟩
      rw [show ((j + 1 : Nat) : Int) - 1 = (j : Int) by omega, Int.tdiv_eq_ediv_of_nonneg (by omega)]
      simp
  have hm1 : b ≤ a + m := by omega
  have hm2 : a + m ≤ b := by omega
  obtain ⟨r, hr⟩ : ∃ r, r = heapPop ltInt a m (heapBuild ltInt m a ((m - 1) / 2 + 1) d) := ⟨_, rfl⟩
  rw [← hr]
  have HR := Lib.hid hr
  have hk1 : (m - 1) / 2 + 1 ≤ m + 1 := by omega
  generalize (m - 1) / 2 + 1 = k1 at *
  clear hres hm hr
  go_enter Try.func53, Try.ntmps53
  go_wp2
  go_loopw [9] (fun vi wr => ∃ (k : Nat) (dk : Array Int), vi = .int .i64 ((k : Int) - 1) ∧ k ≤ k1 ∧ dk.size = d.size ∧ SRow te base wr g c dk ∧ One g w wr ∧ Hid (heapBuild ltInt m a k dk = heapBuild ltInt m a k1 d)) (fun vi _ => (intOf vi + 1).toNat)
  case atStart => exact ⟨k1, d, rfl, Nat.le_refl _, rfl, h, One.refl _ _, rfl⟩
  case round =>
    obtain ⟨k, dk, rfl, hk, hsk, hRw, hO, HE⟩ := hrel
    clear h
    rcases Nat.eq_zero_or_pos k with rfl | hkp
    · rw [show (((0 : Nat) : Int) - 1) = -1 from rfl]
      have hE : dk = heapBuild ltInt m a k1 d := HE.out
      have HE2 := Lib.hid hE
      clear hE
      obtain ⟨wo, rfl⟩ : ∃ wo : World, wo = wr := ⟨_, rfl⟩
      go_wp2
      go_loopw [10] (fun vi wr => ∃ (k : Nat) (dj : Array Int), vi = .int .i64 ((k : Int) - 1) ∧ k ≤ m ∧ dj.size = d.size ∧ SRow te base wr g c dj ∧ One g w wr ∧ Hid (heapPop ltInt a k dj = r)) (fun vi _ => (intOf vi + 1).toNat)
      case atStart => exact ⟨m, dk, rfl, Nat.le_refl _, hsk, hRw, hO, by show heapPop ltInt a m dk = r; rw [HE2.out, HR.out]⟩
      case round =>
        obtain ⟨k, dj, rfl, hk, hsj, hRj, hOj, HP⟩ := hrel
        clear hRw hO
        rcases Nat.eq_zero_or_pos k with rfl | hkp
        · rw [show (((0 : Nat) : Int) - 1) = -1 from rfl]
          have hE : dj = r := HP.out
          subst hE
          go_wp2
          go_end0
          exact ⟨rfl, hRj, hsj, hOj⟩
        · obtain ⟨j, rfl⟩ : ∃ j, k = j + 1 := ⟨k - 1, by omega⟩
          rw [show ((j + 1 : Nat) : Int) - 1 = (j : Int) by omega]
          obtain ⟨x, hx⟩ : ∃ x, dj[a]! = x := ⟨_, rfl⟩
          obtain ⟨y, hy⟩ : ∃ y, dj[a + j]! = y := ⟨_, rfl⟩
          have hcx := fun n => (hRj.drewN n).cell (t := a) (by omega)
          have hcy := fun n => (hRj.drewN n).cell (t := a + j) (by omega)
          have hfx := fun n => (hRj.drewN n).frozen a
          have hfy := fun n => (hRj.drewN n).frozen (a + j)
          have hcx0 : wr.cell? ⟨g, a, none⟩ = _ := hRj.cell (t := a) (by omega)
          have hcy0 : wr.cell? ⟨g, a + j, none⟩ = _ := hRj.cell (t := a + j) (by omega)
          have hfx0 : wr.frozen? ⟨g, a, none⟩ = false := hRj.frozen a
          have hfy0 : wr.frozen? ⟨g, a + j, none⟩ = false := hRj.frozen (a + j)
          have hsw := hRj.two0 a (a + j)
          have hone := One.two0 hOj a (a + j) (.int .u32 dj[a + j]!) (.int .u32 dj[a]!)
          rw [hx] at hcx hsw hone hcx0
          rw [hy] at hcy hsw hone hcy0
          have hstep : heapPop ltInt a (j + 1) dj = heapPop ltInt a j (siftDown ltInt j a 0 (swp dj a (a + j))) := rfl
          have HST := Lib.hid hstep
          have HSW := Lib.hid hsw
          have HONE := Lib.hid hone
          obtain ⟨z, hz⟩ := hRj.again a (a + j) y (by omega)
          have hzf : (wr.setCell ⟨g, a, none⟩ (.int .u32 y)).frozen? ⟨g, a + j, none⟩ = false := (hRj.one a y).frozen _
          have hs1 : (a : Int) + j < d.size := by omega
          have hs0 : 0 ≤ (a : Int) + j := by omega
          have hst : ((a : Int) + j).toNat = a + j := by omega
          have hs2 : (a : Int) < d.size := by omega
          have hs3 : IntKind.i64.wrap ((a : Int) + j) = (a : Int) + j := IntWalk.i64_in _ (by omega)
          have hc := sift_any hsw 0 j a (by omega) (by rw [swp_size]; omega) (by rw [swp_size]; omega)
          rw [swp_size, hsj, show ((0 : Nat) : Int) = 0 from rfl] at hc
          have HCALL := Lib.hid hc
          have hz0 := siftDown_size ltInt j a 0 (swp dj a (a + j))
          rw [swp_size] at hz0
          have HZ0 := Lib.hid hz0
          clear hx hy hsw hone hstep hc hz0
          go_wp2_with fail
          go_region
          all_goals go_wp2_with fail
          refine HCALL.out.mono ?_
          rintro e w2 ⟨rfl, hR2, _, hO2⟩
          go_wp2
          go_roundw
          case rel => exact ⟨j, _, by go_num, by omega, by rw [HZ0.out]; exact hsj, hR2, HONE.out.trans hO2, by show heapPop ltInt a j (siftDown ltInt j a 0 (swp dj a (a + j))) = r; rw [← HP.out, HST.out]⟩
          case measure => simp [intOf]
    · obtain ⟨j, rfl⟩ : ∃ j, k = j + 1 := ⟨k - 1, by omega⟩
      rw [show ((j + 1 : Nat) : Int) - 1 = (j : Int) by omega]
      have hstep : heapBuild ltInt m a (j + 1) dk = heapBuild ltInt m a j (siftDown ltInt m a j dk) := rfl
      have hz := siftDown_size ltInt m a j dk
      have HZ := Lib.hid hz
      have HST := Lib.hid hstep
      clear hstep hz
      have hc := sift_any hRw j m a (by omega) (by omega) (by omega)
      rw [hsk] at hc
      have HCALL := Lib.hid hc
      clear hc
      go_wp2_with fail
      refine HCALL.out.mono ?_
      rintro e w2 ⟨rfl, hR2, _, hO2⟩
      go_wp2
      go_roundw
      case rel => exact ⟨j, _, by go_num, by omega, by rw [HZ.out]; exact hsk, hR2, hO.trans hO2, by show heapBuild ltInt m a j (siftDown ltInt m a j dk) = _; rw [← HE.out, HST.out]⟩
      case measure => simp [intOf]

theorem reverseLoop_go (i j : Nat) (d : Array Int) (h : i < j) : reverseLoop i j d = reverseLoop (i + 1) (j - 1) (swp d i j) := by
  conv => lhs; unfold reverseLoop
  rw [if_pos h]
theorem reverseLoop_stop (i j : Nat) (d : Array Int) (h : ¬ i < j) : reverseLoop i j d = d := by
  unfold reverseLoop
  rw [if_neg h]

set_option maxRecDepth 100000 in
set_option maxHeartbeats 1600000 in
theorem reverse_any {te : TypeId} {base g c : Nat} {w : World} {d : Array Int} (h : SRow te base w g c d) (a b : Nat) (hab : a < b) (hb : b ≤ d.size) (hn : d.size ≤ 1000000) :
    Calls Try.prog 56 #[.slice (some ⟨g, 0, none⟩) d.size c, .int .i64 a, .int .i64 b] w fun e w' => e = .returned (.tuple #[]) ∧ SRow te base w' g c (reverseRange d a b) ∧ (reverseRange d a b).size = d.size ∧ One g w w' := by
  obtain ⟨m, rfl⟩ : ∃ m, b = m + 1 := ⟨b - 1, by omega⟩
  have hbm : ((m + 1 : Nat) : Int) - 1 = m := by omega
  have hres : reverseRange d a (m + 1) = reverseLoop a m d := rfl
  obtain ⟨r, hr⟩ : ∃ r, r = reverseLoop a m d := ⟨_, rfl⟩
  rw [hres, ← hr]
  have HR := Lib.hid hr
  obtain ⟨bI, hbI⟩ : ∃ bI : Int, bI = ((m + 1 : Nat) : Int) := ⟨_, rfl⟩
  rw [← hbI] at hbm ⊢
  have hb1 : 0 ≤ bI := by omega
  have hb2 : bI ≤ 1000001 := by omega
  clear hres hr hbI
  go_enter Try.func56, Try.ntmps56
  go_wp2
  go_loopw [6, 7] (fun vi vj wr => ∃ (i j : Nat) (dk : Array Int), vi = .int .i64 i ∧ vj = .int .i64 j ∧ i ≤ j + 1 ∧ j ≤ m ∧ dk.size = d.size ∧ SRow te base wr g c dk ∧ One g w wr ∧ Hid (reverseLoop i j dk = r)) (fun vi vj _ => (intOf vj - intOf vi).toNat)
  case atStart => exact ⟨a, m, d, rfl, rfl, by omega, Nat.le_refl _, rfl, h, One.refl _ _, HR.out.symm⟩
  case round =>
    obtain ⟨i, j, dk, rfl, rfl, hij, hjm, hsk, hRw, hO, HE⟩ := hrel
    clear h
    by_cases hlt : i < j
    · obtain ⟨x, hx⟩ : ∃ x, dk[i]! = x := ⟨_, rfl⟩
      obtain ⟨y, hy⟩ : ∃ y, dk[j]! = y := ⟨_, rfl⟩
      have hcx0 : wr.cell? ⟨g, i, none⟩ = _ := hRw.cell (t := i) (by omega)
      have hcy0 : wr.cell? ⟨g, j, none⟩ = _ := hRw.cell (t := j) (by omega)
      have hfx0 : wr.frozen? ⟨g, i, none⟩ = false := hRw.frozen i
      have hfy0 : wr.frozen? ⟨g, j, none⟩ = false := hRw.frozen j
      have hsw := hRw.two0 i j
      have hone := One.two0 hO i j (.int .u32 dk[j]!) (.int .u32 dk[i]!)
      obtain ⟨z, hz⟩ := hRw.again i j dk[j]! (by omega)
      have hzf : (wr.setCell ⟨g, i, none⟩ (.int .u32 dk[j]!)).frozen? ⟨g, j, none⟩ = false := (hRw.one i dk[j]!).frozen _
      rw [hx] at hcx0 hsw hone
      rw [hy] at hcy0 hsw hone hz hzf
      have hstep := reverseLoop_go i j dk hlt
      have HST := Lib.hid hstep
      have HSW := Lib.hid hsw
      have HONE := Lib.hid hone
      clear hx hy hsw hone hstep
      go_wp2_with fail
      go_region
      all_goals go_wp2
      go_roundw
      case rel => exact ⟨i + 1, j - 1, _, by go_num, by congr 1; omega, by omega, by omega, by rw [swp_size]; exact hsk, HSW.out, HONE.out, by show reverseLoop (i + 1) (j - 1) (swp dk i j) = r; rw [← HE.out, HST.out]⟩
      case measure => simp [intOf]; omega
    · have hE := HE.out
      rw [reverseLoop_stop _ _ _ hlt] at hE
      subst hE
      go_wp2
      go_end0
      exact ⟨rfl, hRw, hsk, hO⟩

end Go.Proofs.Ytjnaihhkbbeaoaa
