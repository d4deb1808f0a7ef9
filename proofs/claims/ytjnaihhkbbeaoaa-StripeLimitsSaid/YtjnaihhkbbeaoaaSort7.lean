/- The library's sort at uint32: the partial insertion sort. -/
import Derived.Test.YtjnaihhkbbeaoaaSort5
namespace Go.Proofs.Ytjnaihhkbbeaoaa
open Go.RowKit Go.Sort

section
variable (lt : Int → Int → Bool)
theorem scanSorted_go (d : Array Int) (b i : Nat) (h : i < b) (hl : lt d[i]! d[i - 1]! = false) : scanSorted lt d b i = scanSorted lt d b (i + 1) := by
  conv => lhs; unfold scanSorted
  rw [hl, decide_eq_true h]
  rfl
theorem scanSorted_stop (d : Array Int) (b i : Nat) (h : ¬ i < b ∨ lt d[i]! d[i - 1]! = true) : scanSorted lt d b i = i := by
  unfold scanSorted
  rcases h with h | h
  · rw [decide_eq_false h]; rfl
  · rw [h, Bool.not_true, Bool.and_false]; rfl
theorem scanSorted_range (d : Array Int) (b : Nat) : ∀ (n i : Nat), b - i = n → i ≤ b → i ≤ scanSorted lt d b i ∧ scanSorted lt d b i ≤ b
  | 0, i, hn, h => by
    rw [scanSorted_stop lt d b i (.inl (by omega))]
    omega
  | n + 1, i, hn, h => by
    by_cases hl : lt d[i]! d[i - 1]! = true
    · rw [scanSorted_stop lt d b i (.inr hl)]; omega
    · rw [scanSorted_go lt d b i (by omega) (by simpa using hl)]
      have := scanSorted_range d b n (i + 1) (by omega) (by omega)
      omega
theorem shiftDown_go (j : Nat) (d : Array Int) (h : 1 ≤ j) (hl : lt d[j]! d[j - 1]! = true) : shiftDown lt j d = shiftDown lt (j - 1) (swp d j (j - 1)) := by
  obtain ⟨k, rfl⟩ : ∃ k, j = k + 1 := ⟨j - 1, by omega⟩
  rw [Nat.add_sub_cancel] at hl ⊢
  conv => lhs; unfold shiftDown
  rw [hl]
  rfl
theorem shiftDown_stop (j : Nat) (d : Array Int) (h : ¬ 1 ≤ j ∨ lt d[j]! d[j - 1]! = false) : shiftDown lt j d = d := by
  cases j with
  | zero => rfl
  | succ k =>
    rcases h with h | h
    · omega
    · rw [Nat.add_sub_cancel] at h
      unfold shiftDown
      rw [h]
      rfl
theorem shiftUp_go (b j : Nat) (d : Array Int) (h : j < b) (hl : lt d[j]! d[j - 1]! = true) : shiftUp lt b j d = shiftUp lt b (j + 1) (swp d j (j - 1)) := by
  conv => lhs; unfold shiftUp
  rw [if_pos h, hl]
  rfl
theorem shiftUp_stop (b j : Nat) (d : Array Int) (h : ¬ j < b ∨ lt d[j]! d[j - 1]! = false) : shiftUp lt b j d = d := by
  unfold shiftUp
  rcases h with h | h
  · rw [if_neg h]
  · by_cases hj : j < b
    · rw [if_pos hj, h]; rfl
    · rw [if_neg hj]
theorem partialIns_step (a b s i u : Nat) (d d1 d2 d3 : Array Int) (hu : scanSorted lt d b i = u) (h1 : swp d u (u - 1) = d1) (h2 : (if u - a ≥ 2 then shiftDown lt (u - 1) d1 else d1) = d2) (h3 : (if b - u ≥ 2 then shiftUp lt b (u + 1) d2 else d2) = d3) :
    partialIns lt a b (s + 1) i d = if u = b then (d, true) else if b - a < 50 then (d, false) else partialIns lt a b s u d3 := by
  subst hu h1 h2 h3
  rfl
end


set_option maxRecDepth 100000 in
set_option maxHeartbeats 3200000 in
theorem partial_any {te : TypeId} {base g c : Nat} {w : World} {d : Array Int} (h : SRow te base w g c d) (a b : Nat) (hab : a < b) (hb : b ≤ d.size) (hn : d.size ≤ 1000000) :
    Calls Try.prog 57 #[.slice (some ⟨g, 0, none⟩) d.size c, .int .i64 a, .int .i64 b] w fun e w' => e = .returned (.bool (partialInsertionSort ltInt d a b).2) ∧ SRow te base w' g c (partialInsertionSort ltInt d a b).1 ∧ (partialInsertionSort ltInt d a b).1.size = d.size ∧ One g w w' := by
  have hres : partialInsertionSort ltInt d a b = partialIns ltInt a b 5 (a + 1) d := rfl
  obtain ⟨r, hr⟩ : ∃ r, partialIns ltInt a b 5 (a + 1) d = r := ⟨_, rfl⟩
  rw [hres, hr]
  have HR := Lib.hid hr
  clear hres hr
  go_enter Try.func57, Try.ntmps57
  go_wp2_with fail
  go_loopg [7, 8] 5 (fun k vi vj wr => ∃ (i t : Nat) (dk : Array Int), vi = .int .i64 i ∧ vj = .int .i64 t ∧ a < i ∧ i ≤ b ∧ t ≤ 5 ∧ 5 - t ≤ k ∧ dk.size = d.size ∧ SRow te base wr g c dk ∧ One g w wr ∧ Hid (partialIns ltInt a b (5 - t) i dk = r))
  case atStart => exact ⟨a + 1, 0, d, by go_num, rfl, by omega, by omega, by omega, by omega, rfl, h, One.refl _ _, HR.out⟩
  case round =>
    obtain ⟨i, t, dk, rfl, rfl, hai, hib, ht5, hk, hsk, hR, hO, HE⟩ := hrel
    obtain ⟨wo, rfl⟩ : ∃ wo : World, wo = wr := ⟨_, rfl⟩
    clear h HR
    by_cases ht : t < 5
    · have htd : decide ((t : Int) < 5) = true := decide_eq_true (by omega)
      obtain ⟨u, hu⟩ : ∃ u, scanSorted ltInt dk b i = u := ⟨_, rfl⟩
      obtain ⟨d1, hd1⟩ : ∃ d1, swp dk u (u - 1) = d1 := ⟨_, rfl⟩
      obtain ⟨d2, hd2⟩ : ∃ d2, (if u - a ≥ 2 then shiftDown ltInt (u - 1) d1 else d1) = d2 := ⟨_, rfl⟩
      obtain ⟨d3, hd3⟩ : ∃ d3, (if b - u ≥ 2 then shiftUp ltInt b (u + 1) d2 else d2) = d3 := ⟨_, rfl⟩
      have hstep := partialIns_step ltInt a b (5 - (t + 1)) i u dk d1 d2 d3 hu hd1 hd2 hd3
      rw [show 5 - (t + 1) + 1 = 5 - t by omega, HE.out] at hstep
      have hrg := scanSorted_range ltInt dk b _ i rfl hib
      rw [hu] at hrg
      have hs1d : d1.size = d.size := by rw [← hd1, swp_size]; exact hsk
      have hS1D := Lib.hid hs1d
      have hu1 := hrg.1
      have hu2 := hrg.2
      have HU := Lib.hid hu
      have HST := Lib.hid hstep
      have HD2a := Lib.hid hd2
      have HD3a := Lib.hid hd3
      clear hrg hu hstep hd2 hd3 HE hs1d
      go_upto_block 2 with fail
      go_cut [7] (fun s7 wx => s7 = .int .i64 u ∧ SRow te base wx g c dk ∧ One g w wx)
      case first =>
        clear hd1
        go_wp2_with fail
        go_loopw [7] (fun vi wr => ∃ i' : Nat, vi = .int .i64 i' ∧ i ≤ i' ∧ i' ≤ b ∧ SRow te base wr g c dk ∧ One g w wr ∧ Hid (scanSorted ltInt dk b i' = u)) (fun vi _ => b - (intOf vi).toNat)
        case atStart => exact ⟨i, rfl, Nat.le_refl _, hib, hR, hO, HU⟩
        case round =>
          obtain ⟨i', rfl, hv1, hv2, hRs, hOs, HUs⟩ := hrel
          clear hR hO
          by_cases hle : i' < b
          · have hdn : decide (i' < b) = true := decide_eq_true hle
            have hdi : decide ((i' : Int) < b) = true := decide_eq_true (by omega)
            have hva : i' < dk.size := by omega
            have hvI : (i' : Int) < d.size := by omega
            have hs1 : IntKind.i64.wrap ((i' : Int) - 1) = (i' : Int) - 1 := IntWalk.i64_in _ (by omega)
            have hs2 : ((i' : Int) - 1).toNat = i' - 1 := by omega
            have hs3 : 0 ≤ (i' : Int) - 1 := by omega
            have hs4 : (i' : Int) - 1 < d.size := by omega
            obtain ⟨y1, hy1⟩ : ∃ y, dk[i']! = y := ⟨_, rfl⟩
            obtain ⟨y2, hy2⟩ : ∃ y, dk[i' - 1]! = y := ⟨_, rfl⟩
            have hcx := fun n => (hRs.drewN n).cell (t := i') hva
            have hcy := fun n => (hRs.drewN n).cell (t := i' - 1) (by omega)
            rw [hy1] at hcx
            rw [hy2] at hcy

            have hgo := scanSorted_go ltInt dk b i' hle
            have hstop := fun h => scanSorted_stop ltInt dk b i' (.inr h)
            rw [hy1, hy2] at hgo hstop
            clear hy1 hy2
            obtain ⟨q, hq⟩ : ∃ q, ltInt y1 y2 = q := ⟨_, rfl⟩
            rw [hq] at hgo
            simp only [hq] at hstop
            have HGO := Lib.hid hgo
            have HSTOP := Lib.hid hstop
            clear hgo hstop
            have hless : ∀ W, Calls Try.prog 58 #[.int .u32 y1, .int .u32 y2] W fun e w' => e = .returned (.bool q) ∧ w' = W := fun W => by rw [← hq]; exact less_any _ _ _
            have HLS := Lib.hid hless
            clear hless hq
            cases q
            · go_wp2_with fail
              go_quiet ((go_at_call 58; with_reducible (first | exact quiet1 HLS.out | exact quiet2 HLS.out | exact quiet3 HLS.out)))
              go_wp2
              go_roundw
              case rel => exact ⟨i' + 1, by go_num, by omega, by omega, hRs.drewN _, hOs.drewN _, by show scanSorted ltInt dk b (i' + 1) = u; rw [← HUs.out, HGO.out (by first | exact trivial | exact rfl)]⟩
              case measure => simp [intOf] <;> omega
            · go_wp2_with fail
              go_quiet ((go_at_call 58; with_reducible (first | exact quiet1 HLS.out | exact quiet2 HLS.out | exact quiet3 HLS.out)))
              go_wp2
              go_meet
              have hu := HUs.out
              rw [HSTOP.out (by first | exact trivial | exact rfl)] at hu
              exact ⟨congrArg (fun n : Nat => Value.int .i64 n) hu, hRs.drewN _, hOs.drewN _⟩
          · have hdn : decide (i' < b) = false := decide_eq_false hle
            have hdi : decide ((i' : Int) < b) = false := decide_eq_false (by omega)
            have hstop := scanSorted_stop ltInt dk b i' (.inl hle)
            have HSTOP := Lib.hid hstop
            clear hstop
            go_wp2_with fail
            go_quiet (fail)
            go_wp2
            go_meet
            have hu := HUs.out
            rw [HSTOP.out] at hu
            exact ⟨congrArg (fun n : Nat => Value.int .i64 n) hu, hRs.drewN _, hOs.drewN _⟩
      case rest =>
        obtain ⟨rfl, hR1, hO1⟩ := hcut
        clear hR hO
        obtain ⟨wo, rfl⟩ : ∃ wo : World, wo = wc := ⟨_, rfl⟩
        by_cases hub : u = b
        · have hE := HST.out
          rw [if_pos hub] at hE
          subst hub hE
          clear hd1
          go_wp2
          go_ret
          first | exact ⟨rfl, hR1, hsk, hO1⟩ | exact ⟨rfl, hR1, hO1⟩
        · have hubI : ((u : Int) == (b : Int)) = false := by simp; omega
          have hE := HST.out
          rw [if_neg hub] at hE
          have hsub : IntKind.i64.wrap ((b : Int) - a) = (b : Int) - a := IntWalk.i64_in _ (by omega)
          by_cases h50 : b - a < 50
          · have h5d : decide ((b : Int) - a < 50) = true := decide_eq_true (by omega)
            rw [if_pos h50] at hE
            subst hE
            clear hd1
            go_wp2
            go_ret
            first | exact ⟨rfl, hR1, hsk, hO1⟩ | exact ⟨rfl, hR1, hO1⟩
          · have h5d : decide ((b : Int) - a < 50) = false := decide_eq_false (by omega)
            rw [if_neg h50] at hE
            have HST2 := Lib.hid hE
            clear hE HST
            have hs1 : IntKind.i64.wrap ((u : Int) - 1) = (u : Int) - 1 := IntWalk.i64_in _ (by omega)
            have hs2 : ((u : Int) - 1).toNat = u - 1 := by omega
            have hs3 : 0 ≤ (u : Int) - 1 := by omega
            have hs4 : (u : Int) - 1 < d.size := by omega
            have hs5 : (u : Int) < d.size := by omega
            have hs6 : IntKind.i64.wrap ((u : Int) - a) = (u : Int) - a := IntWalk.i64_in _ (by omega)
            have hs7 : IntKind.i64.wrap ((b : Int) - u) = (b : Int) - u := IntWalk.i64_in _ (by omega)
            have hs8 : IntKind.i64.wrap ((u : Int) + 1) = (u : Int) + 1 := IntWalk.i64_in _ (by omega)
            obtain ⟨x1, hx1⟩ : ∃ x, dk[u]! = x := ⟨_, rfl⟩
            obtain ⟨y1, hy1⟩ : ∃ y, dk[u - 1]! = y := ⟨_, rfl⟩
            have hcx0 : wo.cell? ⟨g, u, none⟩ = _ := hR1.cell (t := u) (by omega)
            have hcy0 : wo.cell? ⟨g, u - 1, none⟩ = _ := hR1.cell (t := u - 1) (by omega)
            have hfx0 : wo.frozen? ⟨g, u, none⟩ = false := hR1.frozen (u)
            have hfy0 : wo.frozen? ⟨g, u - 1, none⟩ = false := hR1.frozen (u - 1)
            have hsw := hR1.two0 (u) (u - 1)
            have hone := One.two0 hO1 (u) (u - 1) (.int .u32 dk[u - 1]!) (.int .u32 dk[u]!)
            obtain ⟨z, hz⟩ := hR1.again (u) (u - 1) dk[u - 1]! (by omega)
            have hzf : (wo.setCell ⟨g, u, none⟩ (.int .u32 dk[u - 1]!)).frozen? ⟨g, u - 1, none⟩ = false := (hR1.one (u) dk[u - 1]!).frozen _
            rw [hx1] at hcx0 hsw hone
            rw [hy1] at hcy0 hsw hone hz hzf
            rw [hd1] at hsw
            have HSW := Lib.hid hsw
            have HONE := Lib.hid hone
            have HX1 := Lib.hid hx1
            have HY1 := Lib.hid hy1
            clear hx1 hy1 hsw hone
            clear hd1
            go_upto_if 61 with (first | go_region | fail)
            have hR2 := HSW.out
            have hO2 := HONE.out
            have hs1d := hS1D.out
            go_cut [] (fun wx => SRow te base wx g c d2 ∧ One g w wx ∧ d2.size = d.size)
            case first =>
              by_cases h2 : u - a ≥ 2
              · have h2d : decide (2 ≤ (u : Int) - a) = true := decide_eq_true (by omega)
                have hd2 := HD2a.out
                rw [if_pos h2] at hd2
                have HD2 := Lib.hid hd2
                clear hd2
                clear HD2a
                try simp only [h2d]
                go_wp2_with fail
                go_loopg [9] ((u - 1)) (fun k vi wr => ∃ (j : Nat) (dj : Array Int), vi = .int .i64 j ∧ j ≤ k ∧ j ≤ (u - 1) ∧ dj.size = d.size ∧ SRow te base wr g c dj ∧ One g w wr ∧ Hid (shiftDown ltInt j dj = d2))
                case atStart => exact ⟨(u - 1), d1, by first | rfl | go_num | (congr 1; omega), by omega, Nat.le_refl _, hs1d, hR2, hO2, HD2.out⟩
                case round =>
                  obtain ⟨j, dj, rfl, hjk, hj1, hsj, hRs, hOs, HJ⟩ := hrel
                  clear hR2 hO2
                  by_cases hle : 1 ≤ j
                  · have hdn : decide (1 ≤ j) = true := decide_eq_true hle
                    have hdi : decide ((1 : Int) ≤ j) = true := decide_eq_true (by omega)
                    have hva : j < dj.size := by omega
                    have hvI : (j : Int) < d.size := by omega
                    have hs1 : IntKind.i64.wrap ((j : Int) - 1) = (j : Int) - 1 := IntWalk.i64_in _ (by omega)
                    have hs2 : ((j : Int) - 1).toNat = j - 1 := by omega
                    have hs3 : 0 ≤ (j : Int) - 1 := by omega
                    have hs4 : (j : Int) - 1 < d.size := by omega
                    obtain ⟨y1, hy1⟩ : ∃ y, dj[j]! = y := ⟨_, rfl⟩
                    obtain ⟨y2, hy2⟩ : ∃ y, dj[j - 1]! = y := ⟨_, rfl⟩
                    have hcx := fun n => (hRs.drewN n).cell (t := j) hva
                    have hcy := fun n => (hRs.drewN n).cell (t := j - 1) (by omega)
                    rw [hy1] at hcx
                    rw [hy2] at hcy

                    have hfw := fun n => (hRs.drewN n).frozen j
                    have hfv := fun n => (hRs.drewN n).frozen (j - 1)
                    have hsw := fun n => hRs.two n j (j - 1)
                    have hone := fun n => One.two hOs n j (j - 1) (.int .u32 dj[j - 1]!) (.int .u32 dj[j]!)
                    have hgo := shiftDown_go ltInt j dj hle
                    have hstop := fun h => shiftDown_stop ltInt j dj (.inr h)
                    rw [hy1, hy2] at hgo hstop hone
                    simp only [hy1, hy2] at hsw
                    have HSW := Lib.hid hsw
                    have HONE := Lib.hid hone
                    clear hy1 hy2 hsw hone
                    obtain ⟨q, hq⟩ : ∃ q, ltInt y1 y2 = q := ⟨_, rfl⟩
                    rw [hq] at hgo
                    simp only [hq] at hstop
                    have HGO := Lib.hid hgo
                    have HSTOP := Lib.hid hstop
                    clear hgo hstop
                    have hless : ∀ W, Calls Try.prog 58 #[.int .u32 y1, .int .u32 y2] W fun e w' => e = .returned (.bool q) ∧ w' = W := fun W => by rw [← hq]; exact less_any _ _ _
                    have HLS := Lib.hid hless
                    clear hless hq
                    cases q
                    · go_wp2_with fail
                      go_quiet ((go_at_call 58; with_reducible (first | exact quiet1 HLS.out | exact quiet2 HLS.out | exact quiet3 HLS.out)))
                      go_wp2
                      have hE := HJ.out
                      rw [HSTOP.out (by first | exact trivial | exact rfl)] at hE
                      subst hE
                      go_meet
                      exact ⟨(hRs.drewN _), (hOs.drewN _), hsj⟩
                    · go_wp2_with fail
                      go_quiet ((go_at_call 58; with_reducible (first | exact quiet1 HLS.out | exact quiet2 HLS.out | exact quiet3 HLS.out)))
                      go_wp2
                      go_region
                      all_goals go_wp2
                      go_roundg (j - 1)
                      case measure => omega
                      case rel =>
                        refine ⟨j - 1, swp dj j (j - 1), by first | rfl | go_num | (congr 1; omega), Nat.le_refl _, by omega, by rw [swp_size]; exact hsj, HSW.out _, HONE.out _, ?_⟩
                        show shiftDown ltInt (j - 1) (swp dj j (j - 1)) = d2
                        rw [← HJ.out, HGO.out (by first | exact trivial | exact rfl)]
                  · have hdn : decide (1 ≤ j) = false := decide_eq_false hle
                    have hdi : decide ((1 : Int) ≤ j) = false := decide_eq_false (by omega)
                    have hE := HJ.out
                    rw [shiftDown_stop ltInt j dj (.inl hle)] at hE
                    subst hE
                    go_wp2
                    go_meet
                    exact ⟨hRs, hOs, hsj⟩
              · have h2d : decide (2 ≤ (u : Int) - a) = false := decide_eq_false (by omega)
                have hd2 := HD2a.out
                rw [if_neg h2] at hd2
                subst hd2
                go_wp2
                go_meet
                exact ⟨hR2, hO2, hs1d⟩
            case rest =>
              obtain ⟨hR3, hO3, hs2d⟩ := hcut
              clear hR2 hO2 hcx0 hcy0 hfx0 hfy0 hz hzf HSW HONE HX1 HY1 hR1 hO1 hs1d
              obtain ⟨wo, rfl⟩ : ∃ wo : World, wo = wc := ⟨_, rfl⟩
              have HST3 := Lib.hid HST2.out.symm
              by_cases h2 : b - u ≥ 2
              · have h2d : decide (2 ≤ (b : Int) - u) = true := decide_eq_true (by omega)
                have hd3 := HD3a.out
                rw [if_pos h2] at hd3
                have HD3 := Lib.hid hd3
                clear hd3 HD3a
                go_wp2_with fail
                go_loopg [10] (b) (fun k vi wr => ∃ (j : Nat) (dj : Array Int), vi = .int .i64 j ∧ b - j ≤ k ∧ (u + 1) ≤ j ∧ j ≤ b ∧ dj.size = d.size ∧ SRow te base wr g c dj ∧ One g w wr ∧ Hid (shiftUp ltInt b j dj = d3))
                case atStart => exact ⟨(u + 1), d2, by first | rfl | go_num | (congr 1; omega), by omega, Nat.le_refl _, by omega, hs2d, hR3, hO3, HD3.out⟩
                case round =>
                  obtain ⟨j, dj, rfl, hjk, hj1, hj2, hsj, hRs, hOs, HJ⟩ := hrel
                  clear hR3 hO3
                  by_cases hle : j < b
                  · have hdn : decide (j < b) = true := decide_eq_true hle
                    have hdi : decide ((j : Int) < b) = true := decide_eq_true (by omega)
                    have hva : j < dj.size := by omega
                    have hvI : (j : Int) < d.size := by omega
                    have hs1 : IntKind.i64.wrap ((j : Int) - 1) = (j : Int) - 1 := IntWalk.i64_in _ (by omega)
                    have hs2 : ((j : Int) - 1).toNat = j - 1 := by omega
                    have hs3 : 0 ≤ (j : Int) - 1 := by omega
                    have hs4 : (j : Int) - 1 < d.size := by omega
                    obtain ⟨y1, hy1⟩ : ∃ y, dj[j]! = y := ⟨_, rfl⟩
                    obtain ⟨y2, hy2⟩ : ∃ y, dj[j - 1]! = y := ⟨_, rfl⟩
                    have hcx := fun n => (hRs.drewN n).cell (t := j) hva
                    have hcy := fun n => (hRs.drewN n).cell (t := j - 1) (by omega)
                    rw [hy1] at hcx
                    rw [hy2] at hcy

                    have hfw := fun n => (hRs.drewN n).frozen j
                    have hfv := fun n => (hRs.drewN n).frozen (j - 1)
                    have hsw := fun n => hRs.two n j (j - 1)
                    have hone := fun n => One.two hOs n j (j - 1) (.int .u32 dj[j - 1]!) (.int .u32 dj[j]!)
                    have hgo := shiftUp_go ltInt b j dj hle
                    have hstop := fun h => shiftUp_stop ltInt b j dj (.inr h)
                    rw [hy1, hy2] at hgo hstop hone
                    simp only [hy1, hy2] at hsw
                    have HSW := Lib.hid hsw
                    have HONE := Lib.hid hone
                    clear hy1 hy2 hsw hone
                    obtain ⟨q, hq⟩ : ∃ q, ltInt y1 y2 = q := ⟨_, rfl⟩
                    rw [hq] at hgo
                    simp only [hq] at hstop
                    have HGO := Lib.hid hgo
                    have HSTOP := Lib.hid hstop
                    clear hgo hstop
                    have hless : ∀ W, Calls Try.prog 58 #[.int .u32 y1, .int .u32 y2] W fun e w' => e = .returned (.bool q) ∧ w' = W := fun W => by rw [← hq]; exact less_any _ _ _
                    have HLS := Lib.hid hless
                    clear hless hq
                    cases q
                    · go_wp2_with fail
                      go_quiet ((go_at_call 58; with_reducible (first | exact quiet1 HLS.out | exact quiet2 HLS.out | exact quiet3 HLS.out)))
                      go_wp2
                      have hE := HJ.out
                      rw [HSTOP.out (by first | exact trivial | exact rfl)] at hE
                      subst hE
                      go_roundg (5 - (t + 1))
                      case measure => omega
                      case rel => exact ⟨u, t + 1, _, rfl, by go_num, by omega, by omega, by omega, Nat.le_refl _, hsj, (hRs.drewN _), (hOs.drewN _), HST3.out⟩
                    · go_wp2_with fail
                      go_quiet ((go_at_call 58; with_reducible (first | exact quiet1 HLS.out | exact quiet2 HLS.out | exact quiet3 HLS.out)))
                      go_wp2
                      go_region
                      all_goals go_wp2
                      go_roundg (b - (j + 1))
                      case measure => omega
                      case rel =>
                        refine ⟨j + 1, swp dj j (j - 1), by first | rfl | go_num | (congr 1; omega), Nat.le_refl _, by omega, by omega, by rw [swp_size]; exact hsj, HSW.out _, HONE.out _, ?_⟩
                        show shiftUp ltInt b (j + 1) (swp dj j (j - 1)) = d3
                        rw [← HJ.out, HGO.out (by first | exact trivial | exact rfl)]
                  · have hdn : decide (j < b) = false := decide_eq_false hle
                    have hdi : decide ((j : Int) < b) = false := decide_eq_false (by omega)
                    have hE := HJ.out
                    rw [shiftUp_stop ltInt b j dj (.inl hle)] at hE
                    subst hE
                    go_wp2
                    go_roundg (5 - (t + 1))
                    case measure => omega
                    case rel => exact ⟨u, t + 1, _, rfl, by go_num, by omega, by omega, by omega, Nat.le_refl _, hsj, hRs, hOs, HST3.out⟩
              · have h2d : decide (2 ≤ (b : Int) - u) = false := decide_eq_false (by omega)
                have hd3 := HD3a.out
                rw [if_neg h2] at hd3
                subst hd3
                go_wp2
                go_roundg (5 - (t + 1))
                case measure => omega
                case rel => exact ⟨u, t + 1, _, rfl, by go_num, by omega, by omega, by omega, Nat.le_refl _, hs2d, hR3, hO3, HST3.out⟩
    · have htd : decide ((t : Int) < 5) = false := decide_eq_false (by omega)
      have hE := HE.out
      rw [show 5 - t = 0 by omega] at hE
      have hE2 : (dk, false) = r := hE
      subst hE2
      clear hE
      go_wp2
      go_ret
      first | exact ⟨rfl, hR, hsk, hO⟩ | exact ⟨rfl, hR, hO⟩

end Go.Proofs.Ytjnaihhkbbeaoaa
