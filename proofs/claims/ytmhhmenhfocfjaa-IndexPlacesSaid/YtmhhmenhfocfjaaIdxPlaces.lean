/- IndexPlaces: the walk. -/
import Derived.Test.YtmhhmenhfocfjaaIdxBetween
namespace Go.Proofs.Ytmhhmenhfocfjaa
open Go.RowKit

set_option maxHeartbeats 6400000 in
theorem places_law (x : Value × List Int) (uid p : Int) (w : World) (h : Rd (intE .u32) w x.1 x.2 ∧ (∀ y ∈ x.2, (Lit.int .u32 y).wf = true) ∧ x.2.length ≤ maxLen) (_ : 0 ≤ uid) (_ : uid ≤ 4294967295) (_ : -9223372036854775808 ≤ p) (_ : p ≤ 9223372036854775807) :
    Calls Try.prog 4 #[x.1, .int .u32 uid, .int .i64 p] w fun e w' => e = .returned (.bool true) ∧ New w w' := by
  obtain ⟨v, l⟩ := x
  obtain ⟨hv, hw, _⟩ := h
  dsimp only at hv hw ⊢
  obtain ⟨h0, _⟩ := wf_ge hw rfl
  have HV := Lib.hid hv
  obtain ⟨A, c, rfl, hc, _⟩ := hv
  rcases Nat.lt_or_ge 100 l.length with hl | hl
  · go_enter Try.func4, Try.ntmps4
    go_wp2_with fail
    refine (alive_any _).mono ?_
    rintro e w1 ⟨rfl, hn1⟩
    go_wp2
    go_ret
    exact ⟨rfl, hn1⟩
  · have ha := idxOf_asc l h0
    have hsl := idxOf_len l
    have HQ := Lib.hid (fun w2 (h : New w w2) => qrnew (HV.out.new h) (by omega) h0)
    obtain ⟨s, hs⟩ : ∃ s, idxOf l = s := ⟨_, rfl⟩
    rw [hs] at ha hsl
    have HA := Lib.hid ha.1
    have HNW := Lib.hid (qnew HV.out (by omega))
    rw [hs] at HNW HQ
    clear hs ha hw h0
    go_enter Try.func4, Try.ntmps4
    go_wp2_with fail
    refine HNW.out.mono ?_
    rintro e w1 ⟨x, u, rfl, hx, h1, hn1⟩
    go_wp2_with fail
    refine (HQ.out w1 hn1).mono ?_
    rintro e w2 ⟨o, rfl, ho2, hn2⟩
    have h2 := h1.new hn2
    obtain ⟨oA, oc, rfl, hoc⟩ := ho2.form
    go_wp2_with fail
    refine (qpos h2 HA.out (by omega) uid).mono ?_
    rintro e w3 ⟨rfl, hn3⟩
    go_wp2_with fail
    refine (qrpos (ho2.new hn3).rd (by omega) uid).mono ?_
    rintro e w4 ⟨rfl, hn4⟩
    have hn24 := hn3.trans hn4
    have h4 := h2.new hn24
    have ho4 := ho2.new hn24
    have hnw4 : New w w4 := (hn1.trans hn2).trans hn24
    have H4 := Lib.hid h4
    have HO4 := Lib.hid ho4
    clear h1 h2 ho2 h4 ho4 hn1 hn2 hn3 hn4 hn24 hx
    go_wp2
    obtain ⟨wo, rfl⟩ : ∃ wo : World, wo = w4 := ⟨_, rfl⟩
    go_loopw [36] (fun vi wr => ∃ k : Nat, vi = .int .i64 k ∧ k ≤ s.length ∧ New wo wr) (fun vi _ => s.length - (intOf vi).toNat)
    case atStart => exact ⟨0, rfl, Nat.zero_le _, New.refl _⟩
    case round =>
      obtain ⟨k, rfl, hk, hnew⟩ := hrel
      by_cases hlt : k < s.length
      · have hd : decide ((k : Int) < s.length) = true := decide_eq_true (by omega)
        obtain ⟨y, hy⟩ : ∃ y, s[k]? = some y := ⟨_, List.getElem?_eq_getElem hlt⟩
        obtain ⟨g, rfl⟩ := HO4.out.some1 (by omega)
        have cy : wr.cell? ⟨g, k, none⟩ = some (.int .u32 y) := Fr.cell hnew (HO4.out.icell hy) id
        have hkI : (k : Int) < s.length := by omega
        have hw1 : IntKind.i64.wrap ((k : Int) + 1) = (k : Int) + 1 := IntWalk.i64_in _ (by omega)
        have hat : atOf s ((k : Int) + 1) = (y, true) := by
          unfold atOf
          rw [if_pos (by omega), show ((k : Int) + 1 - 1).toNat = k by omega, hy]
          rfl
        have hpl := placeOf_at HA.out hy
        have HAT := Lib.hid hat
        have HPL := Lib.hid hpl
        clear hy hat hpl
        go_wp2_with fail
        refine (iat_any (H4.out.new hnew).at_ (by omega) ((k : Int) + 1)).mono ?_
        rw [HAT.out]
        rintro e w5 ⟨rfl, rfl⟩
        go_wp2_with fail
        refine (qpos (H4.out.new hnew) HA.out (by omega) y).mono ?_
        rw [HPL.out]
        rintro e w6 ⟨rfl, hn6⟩
        have hnew6 := hnew.trans hn6
        go_wp2
        go_roundw
        case rel => exact ⟨k + 1, by go_num, by omega, hnew6⟩
        case measure => simp [intOf]; omega
      · have hd : decide ((k : Int) < s.length) = false := decide_eq_false (by omega)
        by_cases hin : 1 ≤ p ∧ p ≤ s.length
        · obtain ⟨y, hat⟩ : ∃ y, atOf s p = (y, true) := ⟨_, if_pos hin⟩
          have HAT := Lib.hid hat
          have hd1 : decide (1 ≤ p) = true := decide_eq_true hin.1
          have hd2 : decide (p ≤ s.length) = true := decide_eq_true hin.2
          clear hat hin
          go_wp2_with fail
          refine (iat_any (H4.out.new hnew).at_ (by omega) p).mono ?_
          rw [HAT.out]
          rintro e w5 ⟨rfl, rfl⟩
          go_wp2_with fail
          refine (alive_any _).mono ?_
          rintro e w6 ⟨rfl, hn6⟩
          go_wp2
          go_ret
          exact ⟨rfl, (hnw4.trans hnew).trans hn6⟩
        · have hat : atOf s p = (0, false) := if_neg hin
          have HAT := Lib.hid hat
          by_cases h1 : 1 ≤ p
          · have hd1 : decide (1 ≤ p) = true := decide_eq_true h1
            have hd2 : decide (p ≤ s.length) = false := decide_eq_false (fun h => hin ⟨h1, h⟩)
            clear hat hin
            go_wp2_with fail
            refine (iat_any (H4.out.new hnew).at_ (by omega) p).mono ?_
            rw [HAT.out]
            rintro e w5 ⟨rfl, rfl⟩
            go_wp2_with fail
            refine (alive_any _).mono ?_
            rintro e w6 ⟨rfl, hn6⟩
            go_wp2
            go_ret
            exact ⟨rfl, (hnw4.trans hnew).trans hn6⟩
          · have hd1 : decide (1 ≤ p) = false := decide_eq_false h1
            clear hat hin
            go_wp2_with fail
            refine (iat_any (H4.out.new hnew).at_ (by omega) p).mono ?_
            rw [HAT.out]
            rintro e w5 ⟨rfl, rfl⟩
            go_wp2_with fail
            refine (alive_any _).mono ?_
            rintro e w6 ⟨rfl, hn6⟩
            go_wp2
            go_ret
            exact ⟨rfl, (hnw4.trans hnew).trans hn6⟩

end Go.Proofs.Ytmhhmenhfocfjaa
