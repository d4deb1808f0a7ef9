/- The library's sort at uint32: breakPatterns. -/
import Derived.Test.YtjnaihhkbbeaoaaSort5
import Derived.Test.YtjnaihhkbbeaoaaSortShelf
import Derived.Sort.LotD5
namespace Go.Proofs.Ytjnaihhkbbeaoaa
open Go.RowKit Go.Sort

/-- The rounds that are left: t have been made. -/
def bpRest (a L M i0 : Nat) : Nat → Nat → UInt64 × Array Int → Array Int
  | 0, _, st => st.2
  | k + 1, t, st => bpRest a L M i0 k (t + 1) (breakStep a L M st (i0 + t))
theorem break_eq (d : Array Int) (a b L i0 : Nat) (hL : b - a = L) (h8 : 8 ≤ L) (hi : i0 = a + L / 4 * 2 - 1) : breakPatterns d a b = bpRest a L (1 <<< bitsLen L) i0 3 0 (UInt64.ofNat L, d) := by
  subst hL hi
  unfold breakPatterns
  rw [if_pos h8]
  rfl
theorem bpRest_step (a L M i0 t : Nat) (r : UInt64) (d : Array Int) (o : Nat) (ht : t < 3) (ho : (if (xorNext r).toNat &&& (M - 1) ≥ L then ((xorNext r).toNat &&& (M - 1)) - L else (xorNext r).toNat &&& (M - 1)) = o) :
    bpRest a L M i0 (3 - t) t (r, d) = bpRest a L M i0 (3 - (t + 1)) (t + 1) (xorNext r, swp d (i0 + t) (a + o)) := by
  obtain ⟨k, hk⟩ : ∃ k, k = 3 - (t + 1) := ⟨_, rfl⟩
  rw [show 3 - t = k + 1 by omega, ← hk]
  subst ho
  rfl

set_option maxRecDepth 100000 in
set_option maxHeartbeats 1600000 in
theorem break_any {te : TypeId} {base g c : Nat} {w : World} {d : Array Int} (h : SRow te base w g c d) (a b : Nat) (hab : a ≤ b) (hb : b ≤ d.size) (hn : d.size ≤ 1000000) :
    Calls Try.prog 54 #[.slice (some ⟨g, 0, none⟩) d.size c, .int .i64 a, .int .i64 b] w fun e w' => e = .returned (.tuple #[]) ∧ SRow te base w' g c (breakPatterns d a b) ∧ (breakPatterns d a b).size = d.size ∧ One g w w' := by
  obtain ⟨L, hL⟩ : ∃ L, L = b - a := ⟨_, rfl⟩
  have hLI : (b : Int) - (a : Int) = L := by omega
  have hLb : a + L ≤ b := by omega
  by_cases h8 : L < 8
  · have hr : breakPatterns d a b = d := by unfold breakPatterns; simp only []; rw [if_neg (by omega)]
    have hd8 : decide (8 ≤ (L : Int)) = false := decide_eq_false (by omega)
    rw [hr]
    clear hr hL
    go_enter Try.func54, Try.ntmps54
    go_wp2
    go_end0
    exact ⟨by trivial, h, by trivial, One.refl _ _⟩
  · have hd8 : decide (8 ≤ (L : Int)) = true := decide_eq_true (by omega)
    obtain ⟨q, hq⟩ : ∃ q, q = L / 4 := ⟨_, rfl⟩
    have hqI : (L : Int) / 4 = q := by omega
    obtain ⟨i0, hi0⟩ : ∃ i0, i0 = a + L / 4 * 2 - 1 := ⟨_, rfl⟩
    obtain ⟨res, hres⟩ : ∃ res, breakPatterns d a b = res := ⟨_, rfl⟩
    have he := break_eq d a b L i0 hL.symm (by omega) hi0
    rw [hres] at he ⊢
    have hi1 : i0 + 1 = a + q * 2 := by omega
    have hq1 : 2 ≤ q := by omega
    have hq4 : 4 * q ≤ L := by omega
    have hi2 : a < i0 := by omega
    have hi3 : i0 + 2 < a + L := by omega
    have e0 : IntKind.i64.wrap ((q : Int) * 2) = (q : Int) * 2 := IntWalk.i64_in _ (by omega)
    have e1 : IntKind.i64.wrap ((a : Int) + q * 2) = (a : Int) + q * 2 := IntWalk.i64_in _ (by omega)
    have e2 : IntKind.i64.wrap ((a : Int) + q * 2 - 1) = (i0 : Int) := by rw [IntWalk.i64_in _ (by omega)]; omega
    have e3 : IntKind.i64.wrap ((a : Int) + q * 2 + 1) = (a : Int) + q * 2 + 1 := IntWalk.i64_in _ (by omega)
    have e4 : IntKind.u64.wrap (L : Int) = L := by simp [IntKind.wrap, IntKind.bits, IntKind.signed]; omega
    obtain ⟨M, hM⟩ : ∃ M : Nat, M = 1 <<< bitsLen L := ⟨_, rfl⟩
    have hM1 : 1 ≤ M := by rw [hM, Nat.one_shiftLeft]; exact Nat.two_pow_pos _
    have hM2 : M ≤ 2 * L := by rw [hM, Nat.one_shiftLeft]; exact two_pow_bitsLen_le (by omega)
    have hNP : ∀ w, Calls Try.prog 72 #[.int .i64 (L : Int)] w fun e w' => e = .returned (.int .u64 (M : Int)) ∧ w' = w := by rw [hM]; exact fun w => AnyF.nextPowerOfTwo npA L (by omega) w
    rw [← hM] at he
    have HNP := Lib.hid hNP
    have HE := Lib.hid he
    have hglt := h.lt
    have hgs : g ≠ w.heap.size := by omega
    have hbox : Blk (w.alloc (.cells #[.int .u64 (L : Int)] 114)) w.heap.size 114 #[.int .u64 (L : Int)] := Blk.new _ _ _
    have hu0 : (UInt64.ofNat L).toNat = L := by simp; omega
    have h0 := h.new ((New.refl w).alloc (.cells #[.int .u64 (L : Int)] 114))
    have ho0 : One g w (w.alloc (.cells #[.int .u64 (L : Int)] 114)) := (One.refl g w).alloc _
    have HBOX := Lib.hid hbox
    have HU0 := Lib.hid hu0
    have HI1 := Lib.hid hi1
    have hi1a : i0 + 1 ≤ a + q * 2 := by omega
    have hi1b : a + q * 2 ≤ i0 + 1 := by omega
    clear hNP he hM hi0 hq hL hres hbox hu0 hi1
    go_enter Try.func54, Try.ntmps54
    go_wp2_with (go_at_call 72; refine (HNP.out _).mono ?_; rintro e w' ⟨rfl, rfl⟩)
    go_loopw [9] (fun vi wr => ∃ (x t : Nat) (r : UInt64) (dk : Array Int), vi = .int .i64 x ∧ x ≤ i0 + t ∧ i0 + t ≤ x ∧ t ≤ 3 ∧ 0 ≤ t ∧ dk.size = d.size ∧ SRow te base wr g c dk ∧ Blk wr w.heap.size 114 #[.int .u64 (r.toNat : Int)] ∧ One g w wr ∧ Hid (bpRest a L M i0 (3 - t) t (r, dk) = res)) (fun vi _ => i0 + 3 - (intOf vi).toNat)
    case atStart => exact ⟨i0, 0, UInt64.ofNat L, d, by go_num, by omega, by omega, by omega, by omega, rfl, h0, by rw [HU0.out]; exact HBOX.out, ho0, HE.out.symm⟩
    case round =>
      obtain ⟨x, t, r, dk, rfl, hx1, hx2, ht3, _, hsk, hR, hB, hO, HR⟩ := hrel
      clear h h0 ho0
      by_cases ht : t < 3
      · have hdl : decide ((x : Int) ≤ (a : Int) + q * 2 + 1) = true := decide_eq_true (by omega)
        obtain ⟨R, hRr⟩ : ∃ R : Nat, R = r.toNat := ⟨_, rfl⟩
        have lR : R < 18446744073709551616 := by rw [hRr]; exact r.toNat_lt
        obtain ⟨R', hR'⟩ : ∃ R' : Nat, R' = xorNextN R := ⟨_, rfl⟩
        have lR' : R' < 18446744073709551616 := by rw [hR']; exact xorNextN_lt R lR
        obtain ⟨O, hOo⟩ : ∃ O : Nat, O = R' &&& (M - 1) := ⟨_, rfl⟩
        have lO : O ≤ M - 1 := by rw [hOo]; exact Nat.and_le_right
        have eAnd : bits .and .u64 (R' : Int) ((M : Int) - 1) = (O : Int) := by
          rw [show ((M : Int) - 1) = ((M - 1 : Nat) : Int) by omega, bits_and_u64_nat _ _ lR' (by omega), hOo]
        have eM : IntKind.u64.wrap ((M : Int) - 1) = (M : Int) - 1 := by simp [IntKind.wrap, IntKind.bits, IntKind.signed]; omega
        have eO : IntKind.i64.wrap (O : Int) = O := IntWalk.i64_in _ (by omega)
        have HN : Hid ((xorNext r).toNat = R' ∧ O = (xorNext r).toNat &&& (M - 1)) := by
          have e : R' = (xorNext r).toNat := by rw [hR', hRr, xorNext_toNat]
          exact ⟨e.symm, by rw [hOo, e]⟩
        rw [← hRr] at hB
        have hNext : Calls Try.prog 73 #[.pointer (some ⟨w.heap.size, 0, none⟩)] wr fun e w' => e = .returned (.int .u64 (R' : Int)) ∧ SRow te base w' g c dk ∧ Blk w' w.heap.size 114 #[.int .u64 (R' : Int)] ∧ One g w w' := by
          refine (AnyF.xorshift_Next xsA w.heap.size 0 R lR wr (hB.cell 0) (hB.frozen 0)).mono ?_
          rintro e w' ⟨rfl, rfl⟩
          have hOs : One w.heap.size wr ((wr.setCell ⟨w.heap.size, 0, none⟩ (.int .u64 (xorNextN R : Nat))).drewN 3) := Fr.drewN (One.set (One.refl _ _) 0 _) 3
          rw [hR']
          refine ⟨rfl, hR.fr hOs (fun e => hgs e), ?_, Fr.trans' hO hOs (fun _ hi e => by subst e; omega)⟩
          exact (hB.set_ 0 (.int .u64 (xorNextN R : Nat))).drewN 3
        have HNEXT := Lib.hid hNext
        clear hNext hRr hR' hOo hB hR hO
        by_cases hLO : L ≤ O
        · have hd : decide ((L : Int) ≤ O) = true := decide_eq_true (by omega)
          go_wp2_with (go_at_call 73; refine HNEXT.out.mono ?_; rintro e w2 ⟨rfl, hR2, hB2, hO2⟩)
          have hst := bpRest_step a L M i0 t r dk (O - L) ht (by rw [← HN.out.2]; rw [if_pos hLO])
          rw [HR.out] at hst
          have HST := Lib.hid hst
          clear hst
          have hj0 : a + (O - L) < dk.size := by omega
          have hs1 : IntKind.i64.wrap ((O : Int) - L) = (O : Int) - L := IntWalk.i64_in _ (by omega)
          have hs2 : IntKind.i64.wrap ((a : Int) + ((O : Int) - L)) = (a : Int) + ((O : Int) - L) := IntWalk.i64_in _ (by omega)
          have hs3 : ((a : Int) + ((O : Int) - L)).toNat = a + (O - L) := by omega
          have hs4 : 0 ≤ (a : Int) + ((O : Int) - L) := by omega
          have hs5 : (a : Int) + ((O : Int) - L) < d.size := by omega
          have hs6 : (x : Int) < d.size := by omega
          have hs7 : IntKind.i64.wrap ((x : Int) + 1) = (x : Int) + 1 := IntWalk.i64_in _ (by omega)
          obtain ⟨x1, hx1⟩ : ∃ xx, dk[x]! = xx := ⟨_, rfl⟩
          obtain ⟨y1, hy1⟩ : ∃ y, dk[a + (O - L)]! = y := ⟨_, rfl⟩
          have hcx0 : w2.cell? ⟨g, x, none⟩ = _ := hR2.cell (t := x) (by omega)
          have hcy0 : w2.cell? ⟨g, a + (O - L), none⟩ = _ := hR2.cell (t := a + (O - L)) (by omega)
          have hfx0 : w2.frozen? ⟨g, x, none⟩ = false := hR2.frozen (x)
          have hfy0 : w2.frozen? ⟨g, a + (O - L), none⟩ = false := hR2.frozen (a + (O - L))
          have hsw := hR2.two0 (x) (a + (O - L))
          have hone := One.two0 hO2 (x) (a + (O - L)) (.int .u32 dk[a + (O - L)]!) (.int .u32 dk[x]!)
          obtain ⟨z, hz⟩ := hR2.again (x) (a + (O - L)) dk[a + (O - L)]! (by omega)
          have hzf : (w2.setCell ⟨g, x, none⟩ (.int .u32 dk[a + (O - L)]!)).frozen? ⟨g, a + (O - L), none⟩ = false := (hR2.one (x) dk[a + (O - L)]!).frozen _
          rw [hx1] at hcx0 hsw hone
          rw [hy1] at hcy0 hsw hone hz hzf
          have HSW := Lib.hid hsw
          have HONE := Lib.hid hone
          have HX1 := Lib.hid hx1
          have HY1 := Lib.hid hy1
          clear hx1 hy1 hsw hone
          have hbx := (((hB2.far (p := ⟨g, x, none⟩) (fun e => hgs e.symm) (.int .u32 y1)).far (p := ⟨g, a + (O - L), none⟩) (fun e => hgs e.symm) (.int .u32 x1))).drew
          have HBX := Lib.hid hbx
          clear hbx
          go_wp2_with fail
          go_region
          all_goals go_wp2
          go_roundw
          case rel =>
            refine ⟨x + 1, t + 1, xorNext r, _, by go_num, by omega, by omega, by omega, by omega, by rw [swp_size]; exact hsk, HSW.out, by rw [HN.out.1]; exact HBX.out, HONE.out, ?_⟩
            rw [show x = i0 + t by omega]; exact HST.out.symm
          case measure => simp [intOf] <;> omega
        · have hd : decide ((L : Int) ≤ O) = false := decide_eq_false (by omega)
          go_wp2_with (go_at_call 73; refine HNEXT.out.mono ?_; rintro e w2 ⟨rfl, hR2, hB2, hO2⟩)
          have hst := bpRest_step a L M i0 t r dk (O) ht (by rw [← HN.out.2]; rw [if_neg hLO])
          rw [HR.out] at hst
          have HST := Lib.hid hst
          clear hst
          have hj0 : a + O < dk.size := by omega
          have hs1 : IntKind.i64.wrap ((O : Int) - L) = (O : Int) - L := IntWalk.i64_in _ (by omega)
          have hs2 : IntKind.i64.wrap ((a : Int) + O) = (a : Int) + O := IntWalk.i64_in _ (by omega)
          have hs3 : ((a : Int) + O).toNat = a + O := by omega
          have hs4 : 0 ≤ (a : Int) + O := by omega
          have hs5 : (a : Int) + O < d.size := by omega
          have hs6 : (x : Int) < d.size := by omega
          have hs7 : IntKind.i64.wrap ((x : Int) + 1) = (x : Int) + 1 := IntWalk.i64_in _ (by omega)
          obtain ⟨x1, hx1⟩ : ∃ xx, dk[x]! = xx := ⟨_, rfl⟩
          obtain ⟨y1, hy1⟩ : ∃ y, dk[a + O]! = y := ⟨_, rfl⟩
          have hcx0 : w2.cell? ⟨g, x, none⟩ = _ := hR2.cell (t := x) (by omega)
          have hcy0 : w2.cell? ⟨g, a + O, none⟩ = _ := hR2.cell (t := a + O) (by omega)
          have hfx0 : w2.frozen? ⟨g, x, none⟩ = false := hR2.frozen (x)
          have hfy0 : w2.frozen? ⟨g, a + O, none⟩ = false := hR2.frozen (a + O)
          have hsw := hR2.two0 (x) (a + O)
          have hone := One.two0 hO2 (x) (a + O) (.int .u32 dk[a + O]!) (.int .u32 dk[x]!)
          obtain ⟨z, hz⟩ := hR2.again (x) (a + O) dk[a + O]! (by omega)
          have hzf : (w2.setCell ⟨g, x, none⟩ (.int .u32 dk[a + O]!)).frozen? ⟨g, a + O, none⟩ = false := (hR2.one (x) dk[a + O]!).frozen _
          rw [hx1] at hcx0 hsw hone
          rw [hy1] at hcy0 hsw hone hz hzf
          have HSW := Lib.hid hsw
          have HONE := Lib.hid hone
          have HX1 := Lib.hid hx1
          have HY1 := Lib.hid hy1
          clear hx1 hy1 hsw hone
          have hbx := (((hB2.far (p := ⟨g, x, none⟩) (fun e => hgs e.symm) (.int .u32 y1)).far (p := ⟨g, a + O, none⟩) (fun e => hgs e.symm) (.int .u32 x1))).drew
          have HBX := Lib.hid hbx
          clear hbx
          go_wp2_with fail
          go_region
          all_goals go_wp2
          go_roundw
          case rel =>
            refine ⟨x + 1, t + 1, xorNext r, _, by go_num, by omega, by omega, by omega, by omega, by rw [swp_size]; exact hsk, HSW.out, by rw [HN.out.1]; exact HBX.out, HONE.out, ?_⟩
            rw [show x = i0 + t by omega]; exact HST.out.symm
          case measure => simp [intOf] <;> omega
      · have hdl : decide ((x : Int) ≤ (a : Int) + q * 2 + 1) = false := decide_eq_false (by omega)
        have hE := HR.out
        rw [show 3 - t = 0 by omega] at hE
        have hE2 : dk = res := hE
        subst hE2
        clear hE
        go_wp2
        go_end0
        first | exact ⟨rfl, hR, hsk, hO⟩ | exact ⟨trivial, hR, hsk, hO⟩ | exact ⟨rfl, hR, hO⟩ | exact ⟨trivial, hR, trivial, hO⟩

end Go.Proofs.Ytjnaihhkbbeaoaa
