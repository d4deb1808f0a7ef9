/- Part 13 of the proof of StoreFull: SFull. -/
import Derived.Test.YtdbbchifkjhfcaaGStoreFullAL

section
/- StoreFull: the walk. -/
namespace Go.Proofs.Ytdbbchifkjhfcaa
open Go.RowKit Go.Maps

theorem snext_any {w0 w : World} {base : Nat} {S : Sx} {Q : Qs} {M : List Msg} {n t f : Int} (h : STX w0 base w S Q M n t f) : Calls Try.prog 8 #[.pointer (some ⟨S.s, 0, none⟩)] w fun e w' => e = .returned (.int .u32 n) ∧ w = w' := by
  have e1 : w.cell? ⟨S.s, 1, none⟩ = some (.pointer (some ⟨S.c, 0, none⟩)) := h.hd.cell 1
  have HN := Lib.hid (next_any h.ctr)
  clear h
  go_enter Try.func8, Try.ntmps8
  go_wp2_with fail
  refine HN.out.mono ?_
  rintro e w5 ⟨rfl, rfl⟩
  go_wp2
  go_ret
  exact ⟨rfl, rfl⟩

/-- The mailbox behind i calls of Append. -/
structure FuR (w wr : World) (base : Nat) (s : Nat) (N K : Nat) (i : Nat) (S : Sx) (Q : Qs) (M : List Msg) (n t f : Int) : Prop where
  st : STX w base wr S Q M n t f
  s_ : S.s = s
  cap : S.cap = N
  ids : Q.ids = []
  len : M.length = min i (min N K)
  n_ : n = 4294967295 - K + M.length

set_option maxRecDepth 100000 in
set_option maxHeartbeats 6400000 in
theorem full_law (c l : Int) (w : World) (hc0 : 0 ≤ c) (hc1 : c ≤ 255) (hl0 : 0 ≤ l) (hl1 : l ≤ 255) :
    Calls Try.prog 3 #[.int .u8 c, .int .u8 l] w fun e w' => e = .returned (.bool true) ∧ New w w' := by
  have hcw : IntKind.i64.wrap c = c := IntWalk.i64_in _ (by omega)
  have hlw : IntKind.u32.wrap l = l := by simp [IntKind.wrap_u32]; omega
  have hmc : Int.tmod c 20 = c % 20 := Int.tmod_eq_emod_of_nonneg hc0
  have hml : Int.tmod l 20 = l % 20 := Int.tmod_eq_emod_of_nonneg hl0
  obtain ⟨N, hN⟩ : ∃ N : Nat, c % 20 = N := ⟨(c % 20).toNat, by omega⟩
  obtain ⟨K, hK⟩ : ∃ K : Nat, l % 20 = K := ⟨(l % 20).toNat, by omega⟩
  have hN19 : N ≤ 19 := by omega
  have hK19 : K ≤ 19 := by omega
  rw [hN] at hmc
  rw [hK] at hml
  have hNw : IntKind.i64.wrap (N : Int) = N := IntWalk.i64_in _ (by omega)
  have hKw : IntKind.u32.wrap (K : Int) = K := by simp [IntKind.wrap_u32]; omega
  have hKi : IntKind.i64.wrap (K : Int) = K := IntWalk.i64_in _ (by omega)
  obtain ⟨n0, hn0⟩ : ∃ n0 : Int, 4294967295 - (K : Int) = n0 := ⟨_, rfl⟩
  have hn0b : 4294967276 ≤ n0 ∧ n0 ≤ 4294967295 := by omega
  have hsub : IntKind.u32.wrap (4294967295 - (K : Int)) = n0 := by rw [hn0]; simp [IntKind.wrap_u32]; omega
  have HN0 := Lib.hid hn0
  clear hN hK hn0
  go_enter Try.func3, Try.ntmps3
  go_wp2_with fail
  refine (snew_any 2 (by omega) (by omega) N (by omega) (by omega) n0 (by omega) (by omega) _).mono ?_
  rintro e w1 ⟨S, base, rfl, hcap, _, hS⟩
  rw [show max n0 1 = n0 by omega] at hS
  have HR0 : Hid (FuR w w1 base S.s N K 0 S Qs.none [] n0 0 n0) := Lib.hid ⟨hS, rfl, hcap, rfl, by simp, by rw [HN0.out]; simp⟩
  clear hS hcap
  go_wp2
  go_loopw [24] (fun vi wr => ∃ (i : Nat) (Sj : Sx) (Q : Qs) (M : List Msg) (n t : Int), vi = .int .i64 i ∧ i ≤ 25 ∧ Hid (FuR w wr base S.s N K i Sj Q M n t n0)) (fun vi _ => 25 - (intOf vi).toNat)
  case atStart => exact ⟨0, S, Qs.none, [], n0, 0, rfl, by omega, HR0.out⟩
  case round =>
    obtain ⟨i, Sj, Q, M, n, t, rfl, hi, HR⟩ := hrel
    clear HR0
    by_cases hlt : i < 25
    · have hd : decide ((i : Int) < 25) = true := decide_eq_true (by omega)
      have hw1 : IntKind.i64.wrap ((i : Int) + 1) = (i : Int) + 1 := IntWalk.i64_in _ (by omega)
      have HPS : Hid (Value.pointer (some ⟨Sj.s, 0, none⟩) = .pointer (some ⟨S.s, 0, none⟩)) := Lib.hid (by rw [HR.out.s_])
      have hn_ := HR.out.n_
      have hlen := HR.out.len
      have hMN : M.length ≤ N := by omega
      by_cases hfull : M.length = N
      · have hq1 : decide (N ≤ i) = true := decide_eq_true (by omega)
        have hq1' : decide ((N : Int) ≤ i) = true := decide_eq_true (by omega)
        have hq2 : decide (N ≤ K) = true := decide_eq_true (by omega)
        have hq2' : decide ((N : Int) ≤ K) = true := decide_eq_true (by omega)
        have hap := sappend_full HR.out.st (by rw [HR.out.cap, hfull]) 0 (by omega) none 0 0 (by omega)
        rw [HPS.out] at hap
        have HAP := Lib.hid hap
        have HFU := Lib.hid hfull
        have hNK : N ≤ K := by omega
        have hNi : N ≤ i := by omega
        clear hap hn_ hlen hMN hfull
        by_cases hki : K ≤ i
        all_goals
          have hq3 : decide (K ≤ i) = decide (K ≤ i) := rfl
          first
            | (have hq3a : decide (K ≤ i) = true := decide_eq_true hki
               have hq3b : decide ((K : Int) ≤ i) = true := decide_eq_true (by omega))
            | (have hq3a : decide (K ≤ i) = false := decide_eq_false hki
               have hq3b : decide ((K : Int) ≤ i) = false := decide_eq_false (by omega))
          clear hq3
          go_wp2_with fail
          refine HAP.out.mono ?_
          rintro e w2 ⟨rfl, hn2⟩
          have hst2 := HR.out.st.more hn2
          have hui := suids_any hst2
          rw [HPS.out] at hui
          have HUI := Lib.hid hui
          have HS2 := Lib.hid hst2
          clear hui hst2 hn2
          go_wp2_with fail
          refine HUI.out.mono ?_
          rintro e w3 ⟨A, cc, rfl, _, hn3⟩
          have hln : decide ((N : Int) < M.length) = false := decide_eq_false (by have := HFU.out; omega)
          have hln2 : decide (N < M.length) = false := decide_eq_false (by have := HFU.out; omega)
          go_wp2
          go_roundw
          case rel => exact ⟨i + 1, Sj, Q, M, n, t, by go_num, by omega, HS2.out.more hn3, HR.out.s_, HR.out.cap, HR.out.ids, by rw [HFU.out, Nat.min_eq_left hNK, Nat.min_eq_right (by omega)], HR.out.n_⟩
          case measure => simp [intOf]; omega
      · have hMlt : M.length < N := by omega
        by_cases huid : M.length = K
        · have hq3 : decide (K ≤ i) = true := decide_eq_true (by omega)
          have hq3' : decide ((K : Int) ≤ i) = true := decide_eq_true (by omega)
          have hq2 : decide (N ≤ K) = false := decide_eq_false (by omega)
          have hq2' : decide ((N : Int) ≤ K) = false := decide_eq_false (by omega)
          have hap := sappend_uid HR.out.st (by rw [HR.out.cap]; omega) (by omega) 0 (by omega) none 0 0 (by omega)
          rw [HPS.out] at hap
          have HAP := Lib.hid hap
          have HFU := Lib.hid huid
          have hKN : K ≤ N := by omega
          have hKi' : K ≤ i := by omega
          clear hap hn_ hlen hMN hfull huid
          by_cases hki : N ≤ i
          all_goals
            have hq4 : decide (N ≤ i) = decide (N ≤ i) := rfl
            first
              | (have hq4a : decide (N ≤ i) = true := decide_eq_true hki
                 have hq4b : decide ((N : Int) ≤ i) = true := decide_eq_true (by omega))
              | (have hq4a : decide (N ≤ i) = false := decide_eq_false hki
                 have hq4b : decide ((N : Int) ≤ i) = false := decide_eq_false (by omega))
            clear hq4
            go_wp2_with fail
            refine HAP.out.mono ?_
            rintro e w2 ⟨rfl, hn2⟩
            have hst2 := HR.out.st.more hn2
            have hui := suids_any hst2
            rw [HPS.out] at hui
            have HUI := Lib.hid hui
            have HS2 := Lib.hid hst2
            clear hui hst2 hn2
            go_wp2_with fail
            refine HUI.out.mono ?_
            rintro e w3 ⟨A, cc, rfl, _, hn3⟩
            have hln : decide ((N : Int) < M.length) = false := decide_eq_false (by omega)
            have hln2 : decide (N < M.length) = false := decide_eq_false (by omega)
            go_wp2
            go_roundw
            case rel => exact ⟨i + 1, Sj, Q, M, n, t, by go_num, by omega, HS2.out.more hn3, HR.out.s_, HR.out.cap, HR.out.ids, by rw [HFU.out, Nat.min_eq_right hKN, Nat.min_eq_right (by omega)], HR.out.n_⟩
            case measure => simp [intOf]; omega
        · have hiM : M.length = i := by omega
          have hq1 : decide (N ≤ i) = false := decide_eq_false (by omega)
          have hq1' : decide ((N : Int) ≤ i) = false := decide_eq_false (by omega)
          have hq3 : decide (K ≤ i) = false := decide_eq_false (by omega)
          have hq3' : decide ((K : Int) ≤ i) = false := decide_eq_false (by omega)
          have hap := sappend_any HR.out.st (by rw [HR.out.cap]; omega) (by omega) (fun x hx => by rw [HR.out.ids] at hx; cases hx) 0 (by omega) none 0 0 [] (Rd.nil _ _) (by simp) (fun b' hb' => by cases hb')
          rw [HPS.out] at hap
          have HAP := Lib.hid hap
          have HIM := Lib.hid hiM
          have hiN : i < N := by omega
          have hiK : i < K := by omega
          have hnb : 4294967276 ≤ n ∧ n < 4294967295 := by omega
          have hnz : decide (0 < n) = true := decide_eq_true (by omega)
          clear hap hn_ hlen hMN hfull huid hiM
          go_wp2_with fail
          refine HAP.out.mono ?_
          rintro e w2 ⟨rfl, u', v', hst2, _, _⟩
          have hui := suids_any hst2
          rw [show Value.pointer (some ⟨({ Sj with u := u' } : Sx).s, 0, none⟩) = .pointer (some ⟨S.s, 0, none⟩) from HPS.out] at hui
          have HUI := Lib.hid hui
          have HS2 := Lib.hid hst2
          clear hui hst2
          go_wp2_with fail
          refine HUI.out.mono ?_
          rintro e w3 ⟨A, cc, rfl, _, hn3⟩
          have hMl : (M ++ [(⟨n, 0, []⟩ : Msg)]).length = i + 1 := by rw [List.length_append, HIM.out]; rfl
          obtain ⟨M2, hM2⟩ : ∃ M2, M ++ [(⟨n, 0, []⟩ : Msg)] = M2 := ⟨_, rfl⟩
          rw [hM2] at hMl HS2
          have hln : decide ((N : Int) < ((i + 1 : Nat) : Int)) = false := decide_eq_false (by omega)
          have hln2 : decide (N < i + 1) = false := decide_eq_false (by omega)
          have hln3 : decide ((N : Int) < (i : Int) + 1) = false := decide_eq_false (by omega)
          have hM2' : (M2.length : Int) = (i : Int) + 1 := by omega
          rw [hM2]
          rw [hMl]
          have HML := Lib.hid hMl
          clear hMl hM2 hM2'
          go_wp2
          go_roundw
          case rel => exact ⟨i + 1, { Sj with u := u' }, Qs.told Q (fun _ => true) ⟨1, n, 0⟩ v', M2, n + 1, t + 1, by go_num, by omega, HS2.out.more hn3, HR.out.s_, HR.out.cap, HR.out.ids, by rw [HML.out, Nat.min_eq_left]; omega, by rw [HML.out, HR.out.n_, HIM.out]; omega⟩
          case measure => simp [intOf]; omega
    · have hd : decide ((i : Int) < 25) = false := decide_eq_false (by omega)
      have hi25 : i = 25 := by omega
      have HPS : Hid (Value.pointer (some ⟨Sj.s, 0, none⟩) = .pointer (some ⟨S.s, 0, none⟩)) := Lib.hid (by rw [HR.out.s_])
      have hlen : M.length = min N K := by have := HR.out.len; omega
      have HL := Lib.hid hlen
      have HNN := Lib.hid HR.out.n_
      have hmn : min (N : Int) (K : Int) = ((min N K : Nat) : Int) := by omega
      have hm19 : 0 ≤ min (N : Int) (K : Int) ∧ min (N : Int) (K : Int) ≤ 19 := by omega
      have hle : ((M.length : Int) == min (N : Int) (K : Int)) = true := by rw [hlen, hmn]; simp
      have hwm : IntKind.u32.wrap (min (N : Int) (K : Int)) = min (N : Int) (K : Int) := by simp only [IntKind.wrap_u32]; omega
      have hKn : min N K ≤ K := Nat.min_le_right _ _
      have hn_ : n = n0 + min (N : Int) (K : Int) := by have h1 := HNN.out; have h2 := HN0.out; rw [hmn, ← hlen]; omega
      have hwa : IntKind.u32.wrap (n0 + min (N : Int) (K : Int)) = n0 + min (N : Int) (K : Int) := by
        have h2 := HN0.out
        simp only [IntKind.wrap_u32]
        rw [hmn] at hm19 ⊢
        omega
      have hne : (n == n0 + min (N : Int) (K : Int)) = true := by simpa using hn_
      clear hlen hi25 hn_ hmn hKn
      go_wp2_with fail
      refine (malive_any _).mono ?_
      rintro e w4 ⟨rfl, hn4⟩
      have hst4 := HR.out.st.more hn4
      have hui := suids_any hst4
      rw [HPS.out] at hui
      have HUI := Lib.hid hui
      have HS4 := Lib.hid hst4
      clear hui hst4 hn4
      go_wp2_with fail
      refine HUI.out.mono ?_
      rintro e w5 ⟨A, cc, rfl, _, hn5⟩
      have hst5 := HS4.out.more hn5
      have hnx := snext_any hst5
      rw [HPS.out] at hnx
      have HNX := Lib.hid hnx
      have HS5 := Lib.hid hst5
      clear hnx hst5 hn5
      go_wp2_with fail
      refine HNX.out.mono ?_
      rintro e w6 ⟨rfl, rfl⟩
      go_wp2
      go_ret
      exact ⟨rfl, HS5.out.new⟩

/-- The law, its arguments in order. -/
theorem full_any (c l : Int) (w : World) (h0 : 0 ≤ c) (h1 : c ≤ 255) (h2 : 0 ≤ l) (h3 : l ≤ 255) : Calls Try.prog 3 #[.int .u8 c, .int .u8 l] w fun e w' => e = .returned (.bool true) ∧ New w w' := full_law c l w h0 h1 h2 h3

end Go.Proofs.Ytdbbchifkjhfcaa
end

