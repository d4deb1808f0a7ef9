/- The library's sort at uint32: the pattern-defeating quicksort's loop and recursion. -/
import Derived.Test.YtjnaihhkbbeaoaaSort4
import Derived.Test.YtjnaihhkbbeaoaaSort6
import Derived.Test.YtjnaihhkbbeaoaaSort7
import Derived.Test.YtjnaihhkbbeaoaaSort8
import Derived.Test.YtjnaihhkbbeaoaaSortRd
namespace Go.Proofs.Ytjnaihhkbbeaoaa
open Go.RowKit Go.Sort

theorem ins_size (d : Array Int) (a b : Nat) (hab : a ≤ b) (hb : b ≤ d.size) : (insertionSort ltInt d a b).size = d.size := (insertionSort_holds swo_ltInt d a b hab hb).1.1
theorem eighth {x y p q : Nat} (h1 : q ≤ p) (h2 : y ≤ x) : decide (((x : Int) - (y : Int)) / 8 ≤ (p : Int) - (q : Int)) = decide (p - q ≥ (x - y) / 8) :=
  decide_eq_decide.2 ⟨fun h => by omega, fun h => by omega⟩

set_option maxRecDepth 1000000 in
set_option maxHeartbeats 6400000 in
theorem pdq_any {te : TypeId} {base g c : Nat} : ∀ (N : Nat) (w : World) (d : Array Int) (a b limit : Nat), b - a < N → SRow te base w g c d → a ≤ b → b ≤ d.size → d.size ≤ 1000000 → limit ≤ 1000 → Below ltInt a b d →
    Calls Try.prog 44 #[.slice (some ⟨g, 0, none⟩) d.size c, .int .i64 a, .int .i64 b, .int .i64 limit] w fun e w' => e = .returned (.tuple #[]) ∧ SRow te base w' g c (pdq ltInt d a b limit true true) ∧ (pdq ltInt d a b limit true true).size = d.size ∧ One g w w' := by
  intro N
  induction N with
  | zero => intro _ _ _ _ _ h; exact absurd h (Nat.not_lt_zero _)
  | succ N ih =>
    intro w d a b limit hN h hab hb hn hlimit hBel0
    obtain ⟨res, hres⟩ : ∃ res, pdq ltInt d a b limit true true = res := ⟨_, rfl⟩
    rw [hres]
    have HRES := Lib.hid hres
    clear hres
    go_enter Try.func44, Try.ntmps44
    go_wp2
    go_loopg [1, 2, 3, 8, 9] (b - a) (fun k s1 s2 s3 s8 s9 wr => ∃ (a' b' lim : Nat) (wb wp : Bool) (dk : Array Int), s1 = .int .i64 a' ∧ s2 = .int .i64 b' ∧ s3 = .int .i64 lim ∧ s8 = .bool wb ∧ s9 = .bool wp ∧
      a' ≤ b' ∧ b' ≤ d.size ∧ b' - a' ≤ k ∧ k ≤ b - a ∧ lim ≤ limit ∧ dk.size = d.size ∧ Below ltInt a' b' dk ∧ SRow te base wr g c dk ∧ One g w wr ∧ Hid (pdq ltInt dk a' b' lim wb wp = res))
    case atStart => exact ⟨a, b, limit, true, true, d, rfl, rfl, rfl, rfl, rfl, hab, hb, Nat.le_refl _, Nat.le_refl _, Nat.le_refl _, rfl, hBel0, h, One.refl _ _, HRES⟩
    case round =>
      obtain ⟨a', b', lim, wb, wp, dk, rfl, rfl, rfl, rfl, rfl, hab', hb', hk1, hk2, hlim, hds, hBel, hR, hO, HE⟩ := hrel
      obtain ⟨wo, rfl⟩ : ∃ wo : World, wo = wr := ⟨_, rfl⟩
      clear h hBel0
      have hsub : IntKind.i64.wrap ((b' : Int) - a') = (b' : Int) - a' := IntWalk.i64_in _ (by omega)
      by_cases h12 : b' - a' ≤ 12
      · have h12d : decide ((b' : Int) - (a' : Int) ≤ 12) = true := decide_eq_true (by omega)
        have hc := insertion_any hR a' b' hab' (by omega) (by omega)
        have hE := HE.out
        rw [pdq_small h12] at hE
        rw [hE, hds] at hc
        have HC := Lib.hid hc
        clear hc hE
        go_wp2_with (go_at_call 52; refine HC.out.mono ?_; rintro e w1 ⟨rfl, hR1, hs1, hO1⟩)
        (try simp only [Exit.inBlock, Exit.then]); refine bodyPost_ret (results_none rfl _ _ _) rfl ?_
        exact ⟨rfl, hR1, hs1, hO.trans hO1⟩
      · have h12d : decide ((b' : Int) - (a' : Int) ≤ 12) = false := decide_eq_false (by omega)
        by_cases hl0 : lim = 0
        · subst hl0
          have hc := heap_any hR a' b' (b' - a') (by omega) (by omega) (by omega)
          have hE := HE.out
          rw [pdq_heap h12 rfl] at hE
          rw [hE, hds] at hc
          have HC := Lib.hid hc
          clear hc hE
          go_wp2_with (go_at_call 53; refine HC.out.mono ?_; rintro e w1 ⟨rfl, hR1, hs1, hO1⟩)
          (try simp only [Exit.inBlock, Exit.then]); refine bodyPost_ret (results_none rfl _ _ _) rfl ?_
          exact ⟨rfl, hR1, hs1, hO.trans hO1⟩
        · have hl0z : ((lim : Int) == 0) = false := by simp; omega
          have hl0y : ¬ ((lim : Int) = 0) := by omega
          obtain ⟨d1, lm, cc, ch, d2, pv, ht, d3, dn, F⟩ := RdF.make dk a' b' lim wb wp h12 hl0 (by omega) hBel
          have hlm := F.lm_le
          have hclo := F.c_lo
          have hchi := F.c_hi
          have hplo := F.p_lo
          have hphi := F.p_hi
          have hs1 : d1.size = d.size := F.s1.trans hds
          have hs2 : d2.size = d.size := F.s2.trans hds
          have hs3 : d3.size = d.size := F.s3.trans hds
          have HS1 := Lib.hid hs1
          have HS2 := Lib.hid hs2
          have HS3 := Lib.hid hs3
          have HDS := Lib.hid hds
          clear hs1 hs2 hs3 hds
          go_upto_if 35 with fail
          go_cut [3] from 19 (fun s3 wc => s3 = .int .i64 lm ∧ SRow te base wc g c d1 ∧ One g w wc)
          case first =>
            cases wb
            · obtain ⟨e1, e2⟩ := F.brk rfl
              have hc := break_any hR a' b' hab' (by rw [HDS.out]; omega) (by rw [HDS.out]; omega)
              rw [e1, HDS.out] at hc
              have HC := Lib.hid hc
              clear hc e1
              go_wp2_with (go_at_call 54; refine HC.out.mono ?_; rintro e w1 ⟨rfl, hR1, hs1, hO1⟩)
              go_meet
              case rel =>
                refine ⟨?_, hR1, hO.trans hO1⟩
                show Value.int .i64 ((lim : Int) - 1) = Value.int .i64 (lm : Int)
                congr 1
                omega
            · obtain ⟨e1, e2⟩ := F.bal rfl
              subst e1 e2
              go_wp2_with fail
              go_meet
              case rel => exact ⟨rfl, hR, hO⟩
          case rest =>
            obtain ⟨rfl, hR1, hO1⟩ := hcut
            clear hR hO
            have hc := choose_any hR1 a' b' (by omega) (by rw [HS1.out]; omega) (by rw [HS1.out]; omega)
            rw [F.cp, HS1.out] at hc
            have HC := Lib.hid hc
            clear hc
            go_upto_if 50 with (go_at_call 55; refine HC.out.mono ?_; rintro e w2 ⟨rfl, hn2⟩)
            have hR2 := hR1.new hn2
            have hO2 : One g w w2 := Fr.trans' hO1 hn2 (fun _ _ e => e.elim)
            clear hR1 hO1
            go_cut [11, 12] from 19 (fun s11 s12 wc => s11 = .int .i64 pv ∧ s12 = .int .i64 (hintCode ht) ∧ SRow te base wc g c d2 ∧ One g w wc)
            case first =>
              by_cases hh : ch = .decreasing
              · obtain ⟨e2, epv, eht⟩ := F.dec hh
                have hcd : (hintCode ch == 2) = true := by rw [hh]; rfl
                have hcode : hintCode ch = 2 := by rw [hh]; rfl
                have hc := reverse_any hR2 a' b' (by omega) (by rw [HS1.out]; omega) (by rw [HS1.out]; omega)
                rw [e2, HS1.out] at hc
                have HC2 := Lib.hid hc
                have HEH := Lib.hid eht
                have HPV := Lib.hid epv
                clear hc e2 eht epv
                go_wp2_with (go_at_call 56; refine HC2.out.mono ?_; rintro e w3 ⟨rfl, hR3, hs3, hO3⟩)
                go_meet
                case rel =>
                  refine ⟨?_, by rw [HEH.out]; rfl, hR3, hO2.trans hO3⟩
                  have := HPV.out
                  congr 1
                  omega
              · obtain ⟨e2, epv, eht⟩ := F.ndec hh
                have hcd : (hintCode ch == 2) = false := by cases ch <;> simp [hintCode] at hh ⊢
                have hcode : ¬ hintCode ch = 2 := by cases ch <;> simp [hintCode] at hh ⊢
                subst e2 epv eht
                go_wp2_with fail
                go_meet
                case rel => exact ⟨rfl, rfl, hR2, hO2⟩
            case rest =>
              obtain ⟨rfl, rfl, hR3, hO3⟩ := hcut
              clear hR2 hO2
              go_upto_region 15 with fail
              go_cut [12, 68] from 19 (fun s12 s68 wx => s12 = .int .i64 (hintCode ht) ∧ s68 = .bool (wb && wp && decide (ht = .increasing)) ∧ SRow te base wx g c d2 ∧ One g w wx)
              case first =>
                cases wb <;> cases wp <;> cases ht <;>
                  (simp only [hintCode]
                   go_wp2_with fail
                   go_meet
                   exact ⟨rfl, by simp, hR3, hO3⟩)
              case rest =>
                obtain ⟨rfl, rfl, hR4, hO4⟩ := hcut
                clear hR3 hO3
                go_upto_if 68 with fail
                go_cut [] from 19 (fun wx => dn = false ∧ SRow te base wx g c d3 ∧ One g w wx)
                case first =>
                  cases h68 : (wb && wp && decide (ht = .increasing))
                  · obtain ⟨e3, e4⟩ := F.npar h68
                    subst e3
                    have E4 := Lib.hid e4
                    clear e4
                    go_wp2_with fail
                    go_meet
                    case rel => exact ⟨E4.out, hR4, hO4⟩
                  · have e3 := F.par h68
                    have hc := partial_any hR4 a' b' (by omega) (by rw [HS2.out]; omega) (by rw [HS2.out]; omega)
                    rw [e3, HS2.out] at hc
                    have HC3 := Lib.hid hc
                    clear hc e3
                    cases dn
                    · go_wp2_with (go_at_call 57; refine HC3.out.mono ?_; rintro e w4 ⟨rfl, hR5, hs5, hO5⟩)
                      go_meet
                      case rel => exact ⟨by first | rfl | trivial, hR5, hO4.trans hO5⟩
                    · have hE := F.fin rfl
                      rw [HE.out] at hE
                      subst hE
                      go_wp2_with (go_at_call 57; refine HC3.out.mono ?_; rintro e w4 ⟨rfl, hR5, hs5, hO5⟩)
                      (try simp only [Exit.inBlock, Exit.then]); refine bodyPost_ret (results_none rfl _ _ _) rfl ?_
                      exact ⟨rfl, hR5, hs5, hO4.trans hO5⟩
                case rest =>
                  obtain ⟨hdn, hR5, hO5⟩ := hcut
                  have HDN := Lib.hid hdn
                  clear hR4 hO4 hdn
                  obtain ⟨T, hT⟩ : ∃ T, (decide (a' > 0) && !ltInt d3[a' - 1]! d3[pv]!) = T := ⟨_, rfl⟩
                  have FT := F.eq_ HDN.out
                  have FP := F.part HDN.out
                  rw [hT] at FT FP
                  have hpe := parteq_any (w := wc) hR5 a' b' pv hplo hphi (by rw [HS3.out]; omega) (by rw [HS3.out]; omega)
                  go_upto_region 17 with fail
                  go_cut [87] from 19 (fun s87 wx => s87 = .bool T ∧ SRow te base wx g c d3 ∧ One g w wx)
                  case first =>
                    clear hpe
                    have HFT := Lib.hid FT
                    have HFP := Lib.hid FP
                    clear FT FP
                    rcases Nat.eq_zero_or_pos a' with ha0 | ha0
                    · have ha0z : decide ((a' : Int) > 0) = false := decide_eq_false (by omega)
                      have ha0y : decide (0 < (a' : Int)) = false := decide_eq_false (by omega)
                      have ha0n : decide (0 < a') = false := decide_eq_false (by omega)
                      have ha0p : ¬ 0 < a' := by omega
                      have hTf : T = false := by rw [← hT, decide_eq_false (by omega : ¬ a' > 0)]; rfl
                      clear hT ha0 ha0p
                      subst hTf
                      go_quiet (fail)
                      go_wp2
                      go_meet
                      case rel => exact ⟨by first | rfl | simp, hR5.drewN _, hO5.drewN _⟩
                    · have ha0z : decide ((a' : Int) > 0) = true := decide_eq_true (by omega)
                      have ha0y : decide (0 < (a' : Int)) = true := decide_eq_true (by omega)
                      have ha0n : decide (0 < a') = true := decide_eq_true (by omega)
                      have hq1 : IntKind.i64.wrap ((a' : Int) - 1) = (a' : Int) - 1 := IntWalk.i64_in _ (by omega)
                      have hq2 : ((a' : Int) - 1).toNat = a' - 1 := by omega
                      have hq3 : 0 ≤ (a' : Int) - 1 := by omega
                      have hq4 : (a' : Int) - 1 < d.size := by omega
                      have hq5 : (pv : Int) < d.size := by omega
                      obtain ⟨y1, hy1⟩ : ∃ y, d3[a' - 1]! = y := ⟨_, rfl⟩
                      obtain ⟨y2, hy2⟩ : ∃ y, d3[pv]! = y := ⟨_, rfl⟩
                      have hcx := fun n => (hR5.drewN n).cell (t := a' - 1) (by rw [HS3.out]; omega)
                      have hcy := fun n => (hR5.drewN n).cell (t := pv) (by rw [HS3.out]; omega)
                      rw [hy1] at hcx hT
                      rw [hy2] at hcy hT
                      clear hy1 hy2
                      obtain ⟨q, hq⟩ : ∃ q, ltInt y1 y2 = q := ⟨_, rfl⟩
                      rw [hq, decide_eq_true (by omega : a' > 0)] at hT
                      have hless : ∀ W, Calls Try.prog 58 #[.int .u32 y1, .int .u32 y2] W fun e w' => e = .returned (.bool q) ∧ w' = W := fun W => by rw [← hq]; exact less_any _ _ _
                      have HLS := Lib.hid hless
                      have HT := Lib.hid hT
                      clear hless hq hT
                      go_quiet ((go_at_call 58; with_reducible (first | exact quiet1 HLS.out | exact quiet2 HLS.out | exact quiet3 HLS.out)))
                      go_wp2
                      go_meet
                      case rel => exact ⟨by rw [← HT.out]; cases q <;> rfl, hR5.drewN _, hO5.drewN _⟩
                  case rest =>
                    obtain ⟨rfl, hR6, hO6⟩ := hcut
                    clear hpe
                    cases T
                    · obtain ⟨mid, ap, d4, hx⟩ : ∃ mid ap d4, partition ltInt d3 a' b' pv = (mid, ap, d4) := ⟨_, _, _, rfl⟩
                      obtain ⟨r1, r2, hs4, hsm, hlg⟩ := FP rfl mid ap d4 hx
                      have hc := part_any hR6 a' b' pv hplo hphi (by rw [HS3.out]; omega) (by rw [HS3.out]; omega)
                      rw [hx, HS3.out] at hc
                      have HC := Lib.hid hc
                      have HS4 := Lib.hid (hs4.trans HDS.out)
                      have HSM := Lib.hid hsm
                      have HLG := Lib.hid hlg
                      clear hc hx hs4 hsm hlg FT FP hT hR5 hO5
                      have hm1 : IntKind.i64.wrap ((mid : Int) - a') = (mid : Int) - a' := IntWalk.i64_in _ (by omega)
                      have hm2 : IntKind.i64.wrap ((b' : Int) - mid) = (b' : Int) - mid := IntWalk.i64_in _ (by omega)
                      have hm3 : IntKind.i64.wrap ((mid : Int) + 1) = (mid : Int) + 1 := IntWalk.i64_in _ (by omega)
                      go_upto_if 113 with (go_at_call 60; refine HC.out.mono ?_; rintro e w7 ⟨rfl, hR7, hs7, hO7⟩)
                      by_cases h4 : mid - a' < b' - mid
                      · have h4d : decide ((mid : Int) - (a' : Int) < (b' : Int) - (mid : Int)) = true := decide_eq_true (by omega)
                        obtain ⟨B1, z1, B2, hE⟩ := HSM.out h4
                        rw [HE.out] at hE
                        have hih := ih w7 d4 a' mid lm (by omega) hR7 (by omega) (by rw [HS4.out]; omega) (by rw [HS4.out]; omega) (by omega) B1
                        rw [HS4.out] at hih
                        have HIH := Lib.hid hih
                        have HEE := Lib.hid hE
                        have HZ1 := Lib.hid (z1.trans HDS.out)
                        clear hih hE z1
                        go_wp2_with (go_at_call 44; refine HIH.out.mono ?_; rintro e w8 ⟨rfl, hR8, hs8, hO8⟩)
                        go_roundg (b' - (mid + 1))
                        case measure => omega
                        case rel =>
                          refine ⟨mid + 1, b', lm, decide (mid - a' ≥ (b' - a') / 8), ap, pdq ltInt d4 a' mid lm true true, by first | rfl | go_num, rfl, rfl, ?_, rfl, by omega, by omega, Nat.le_refl _, by omega, by omega, HZ1.out, B2, hR8, (hO6.trans hO7).trans hO8, HEE.out.symm⟩
                          exact congrArg Value.bool (eighth (by omega) (by omega))
                      · have h4d : decide ((mid : Int) - (a' : Int) < (b' : Int) - (mid : Int)) = false := decide_eq_false (by omega)
                        obtain ⟨B1, z1, B2, hE⟩ := HLG.out h4
                        rw [HE.out] at hE
                        have hih := ih w7 d4 (mid + 1) b' lm (by omega) hR7 (by omega) (by rw [HS4.out]; omega) (by rw [HS4.out]; omega) (by omega) B1
                        rw [HS4.out, show ((mid + 1 : Nat) : Int) = (mid : Int) + 1 by omega] at hih
                        have HIH := Lib.hid hih
                        have HEE := Lib.hid hE
                        have HZ1 := Lib.hid (z1.trans HDS.out)
                        clear hih hE z1
                        go_wp2_with (go_at_call 44; refine HIH.out.mono ?_; rintro e w8 ⟨rfl, hR8, hs8, hO8⟩)
                        go_roundg (mid - a')
                        case measure => omega
                        case rel =>
                          refine ⟨a', mid, lm, decide (b' - mid ≥ (b' - a') / 8), ap, pdq ltInt d4 (mid + 1) b' lm true true, rfl, rfl, rfl, ?_, rfl, by omega, by omega, Nat.le_refl _, by omega, by omega, HZ1.out, B2, hR8, (hO6.trans hO7).trans hO8, HEE.out.symm⟩
                          exact congrArg Value.bool (eighth (by omega) (by omega))
                    · obtain ⟨mid, d4, hx⟩ : ∃ mid d4, partitionEqual ltInt d3 a' b' pv = (mid, d4) := ⟨_, _, rfl⟩
                      obtain ⟨r1, r2, hs4, B4, hE⟩ := FT rfl mid d4 hx
                      have hc := parteq_any hR6 a' b' pv hplo hphi (by rw [HS3.out]; omega) (by rw [HS3.out]; omega)
                      rw [hx, HS3.out] at hc
                      rw [HE.out] at hE
                      have HC := Lib.hid hc
                      have HEE := Lib.hid hE
                      have HS4 := Lib.hid (hs4.trans HDS.out)
                      clear hc hx hs4 hE FT FP hT hR5 hO5
                      go_wp2_with (go_at_call 59; refine HC.out.mono ?_; rintro e w7 ⟨rfl, hR7, hs7, hO7⟩)
                      go_roundg (b' - mid)
                      case measure => omega
                      case rel => exact ⟨mid, b', lm, wb, wp, d4, rfl, rfl, rfl, rfl, rfl, by omega, by omega, Nat.le_refl _, by omega, by omega, HS4.out, B4, hR7, hO6.trans hO7, HEE.out.symm⟩

end Go.Proofs.Ytjnaihhkbbeaoaa
