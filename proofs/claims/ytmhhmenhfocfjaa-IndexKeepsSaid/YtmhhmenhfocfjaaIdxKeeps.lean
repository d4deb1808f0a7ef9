/- IndexKeeps: the walk. -/
import Derived.Test.YtmhhmenhfocfjaaIdxBetween
namespace Go.Proofs.Ytmhhmenhfocfjaa
open Go.RowKit

/-- A slice that comes in owned, whose cells are turned one by one. -/
theorem Own.ishape {base : Nat} {w : World} {A : Option Addr} {n c : Nat} {l : List Int} (h : Own (intE .u32) 28 base w (.slice A n c) l) : n = l.length := by
  obtain ⟨_, _, he, _⟩ := h.form
  injection he

set_option maxHeartbeats 12800000 in
theorem keeps_law (x : Value × List Int) (w : World) (h : Rd (intE .u32) w x.1 x.2 ∧ (∀ y ∈ x.2, (Lit.int .u32 y).wf = true) ∧ x.2.length ≤ maxLen) :
    Calls Try.prog 7 #[x.1] w fun e w' => e = .returned (.bool true) ∧ New w w' := by
  obtain ⟨i0, hi, hz0, hz1, hz2⟩ := info_parts u32_info
  obtain ⟨v, l⟩ := x
  obtain ⟨hv, hw, _⟩ := h
  dsimp only at hv hw ⊢
  obtain ⟨h0, hmax⟩ := wf_ge hw rfl
  have HV := Lib.hid hv
  obtain ⟨A, c, rfl, hc, _⟩ := hv
  rcases Nat.lt_or_ge 100 l.length with hl | hl
  · go_enter Try.func7, Try.ntmps7
    go_wp2_with fail
    refine (alive_any _).mono ?_
    rintro e w1 ⟨rfl, hn1⟩
    go_wp2
    go_ret
    exact ⟨rfl, hn1⟩
  · have ha := idxOf_asc l h0
    have hsl := idxOf_len l
    have hm0 : ∀ y ∈ idxOf l, 0 ≤ y := fun y hy => h0 y ((ha.2 y).1 hy).1
    have hm1 : ∀ y ∈ idxOf l, y ≤ 4294967295 := fun y hy => hmax y ((ha.2 y).1 hy).1
    have hall := betP_all hm0 hm1
    have HQ := Lib.hid (fun w2 (h : New w w2) => qrnew (HV.out.new h) (by omega) h0)
    have HNW := Lib.hid (fun (w2 : World) (v : Value) (h : Rd (intE .u32) w2 v l) => qnew h (by omega))
    obtain ⟨s, hs⟩ : ∃ s, idxOf l = s := ⟨_, rfl⟩
    rw [hs] at ha hsl hall HQ HNW
    have HA := Lib.hid ha.1
    have HALL := Lib.hid hall
    have h00 := Own.empty (intE .u32) 28 w.heap.size w (Nat.le_refl _)
    clear hs ha hm0 hm1 hall hw h0 hmax
    go_enter Try.func7, Try.ntmps7
    go_wp2_with (at_builtin; refine wpList_append (E := intE .u32) (l := []) rfl (.tmp 18) (.tmp 19) _ rfl Try.underlying22 hi hz0 hz1 hz2 rfl h00 rfl (HV.out.alloc _) rfl (by unfold maxLen; simp; omega) (by simp; omega) (by simp) ?_; intro v1 w1 hv1 hf1 hl1; rw [List.nil_append] at hv1; have hn1 : New w w1 := New.append ((New.refl w).alloc _) h00 hf1; obtain ⟨oA, oc, rfl, hoc⟩ := hv1.form)
    refine (HNW.out w1 _ hv1.rd).mono ?_
    rintro e w2 ⟨x, u, rfl, hx, h2, hn2⟩
    have hv2 := hv1.new hn2
    have HOX : Hid (∀ b, Value.ownBlock (.slice oA l.length oc) = some b → b ≠ x ∧ ∀ b', u.ownBlock = some b' → b ≠ b') := fun b hb => by
      have h3 := (hv1.block hb).2
      refine ⟨by omega, fun b' hb' => ?_⟩
      have := h2.ge b' hb'
      omega
    go_wp2_with fail
    refine (iall_any h2.at_ (by omega)).mono ?_
    rintro e w3 ⟨oa, rfl, ha3, hn3⟩
    obtain ⟨aA, ac, rfl, hac⟩ := ha3.form
    go_wp2_with fail
    refine (qbetween (h2.new hn3) HA.out (by omega) 0 4294967295).mono ?_
    rw [HALL.out]
    rintro e w4 ⟨ob, rfl, hb4, hn4⟩
    obtain ⟨bA, bc, rfl, hbc⟩ := hb4.form
    have h4 := (h2.new hn3).new hn4
    have hv4 := (hv2.new hn3).new hn4
    have ha4 := ha3.new hn4
    have hn14 : New w w4 := ((hn1.trans hn2).trans hn3).trans hn4
    have s2 := hn2.size
    have s3 := hn3.size
    have s4 := hn4.size
    have H4 := Lib.hid h4
    have HV4 := Lib.hid hv4
    have HA4 := Lib.hid ha4
    have HB4 := Lib.hid hb4
    have hxl := h2.1.lt
    have hul := fun b hb => (h2.2.1.block (b := b) hb).2
    have HUL := Lib.hid hul
    have hvl := fun b hb => (hv1.block (b := b) hb)
    have HVL := Lib.hid hvl
    have HAL := Lib.hid (fun b hb => (ha3.block (b := b) hb).2)
    clear hv1 hv2 h2 ha3 hb4 h4 hv4 ha4 hn2 hn3 hn4 hul hvl hf1 hl1 h00
    go_wp2
    obtain ⟨wo, rfl⟩ : ∃ wo : World, wo = w4 := ⟨_, rfl⟩
    go_loopw [31] (fun vi wr => ∃ (k : Nat) (d : List Int), vi = .int .i64 k ∧ k ≤ s.length ∧ Own (intE .u32) 28 w2.heap.size wr (.slice aA s.length ac) d ∧ Fr (fun b => w2.heap.size ≤ b ∧ Value.ownBlock (.slice aA s.length ac) = some b) wo wr) (fun vi _ => s.length - (intOf vi).toNat)
    case atStart => exact ⟨0, s, rfl, Nat.zero_le _, HA4.out, Fr.refl _ _⟩
    case round =>
      obtain ⟨k, d, rfl, hk, hown, hfr⟩ := hrel
      by_cases hlt : k < s.length
      · have hd : decide ((k : Int) < s.length) = true := decide_eq_true (by omega)
        obtain ⟨g, rfl⟩ := hown.some1 (by omega)
        obtain ⟨y, hy⟩ : ∃ y, d[k]? = some y := ⟨_, List.getElem?_eq_getElem (by have := hown.ishape; omega)⟩
        have cy : wr.cell? ⟨g, k, none⟩ = some (.int .u32 y) := hown.icell hy
        have fy : wr.frozen? ⟨g, k, none⟩ = false := hown.ifrozen k
        have hkI : (k : Int) < s.length := by omega
        have hkw : IntKind.i64.wrap ((k : Int) + 1) = (k : Int) + 1 := IntWalk.i64_in _ (by omega)
        have hgw := (hown.block (b := g) rfl).1
        have HO := Lib.hid hown
        clear hy hown
        go_wp2
        go_roundw
        case rel => exact ⟨k + 1, _, by go_num, by omega, HO.out.istored k _, Fr.setCell (p := ⟨g, k, none⟩) hfr (fun _ => ⟨hgw, rfl⟩) _⟩
        case measure => simp [intOf]; omega
      · have hd : decide ((k : Int) < s.length) = false := decide_eq_false (by omega)
        have hs2 := hfr.size
        obtain ⟨wp, rfl⟩ : ∃ wp : World, wp = wr := ⟨_, rfl⟩
        have h5 : IdxU w1.heap.size wp x u s := H4.out.fr hfr (fun h => by have := h.1; omega) fun b hb h => by have := HUL.out b hb; have := h.1; omega
        have hv5 : Own (intE .u32) 28 w.heap.size wp (.slice oA l.length oc) l := HV4.out.fr hfr fun b hb h => by have := (HVL.out b hb).2; have := h.1; omega
        have hb5 : Own (intE .u32) 28 w3.heap.size wp (.slice bA s.length bc) s := HB4.out.fr hfr fun b hb h => by have := HAL.out b h.2; have := (HB4.out.block hb).1; omega
        have hn05 : New w wp := New.two hn14 hfr fun i h => by have := h.1; have := hn1.size; omega
        have H5 := Lib.hid h5
        have HV5 := Lib.hid hv5
        have HB5 := Lib.hid hb5
        clear h5 hv5 hb5 hown hfr
        go_wp2
        go_loopw [43] (fun vi wr => ∃ (k : Nat) (d : List Int), vi = .int .i64 k ∧ k ≤ s.length ∧ Own (intE .u32) 28 w3.heap.size wr (.slice bA s.length bc) d ∧ Fr (fun b => w3.heap.size ≤ b ∧ Value.ownBlock (.slice bA s.length bc) = some b) wp wr) (fun vi _ => s.length - (intOf vi).toNat)
        case atStart => exact ⟨0, _, rfl, Nat.zero_le _, HB5.out, Fr.refl _ _⟩
        case round =>
          obtain ⟨k, d, rfl, hk, hown, hfr⟩ := hrel
          by_cases hlt : k < s.length
          · have hd : decide ((k : Int) < s.length) = true := decide_eq_true (by omega)
            obtain ⟨g, rfl⟩ := hown.some1 (by omega)
            obtain ⟨y, hy⟩ : ∃ y, d[k]? = some y := ⟨_, List.getElem?_eq_getElem (by have := hown.ishape; omega)⟩
            have cy : wr.cell? ⟨g, k, none⟩ = some (.int .u32 y) := hown.icell hy
            have fy : wr.frozen? ⟨g, k, none⟩ = false := hown.ifrozen k
            have hkI : (k : Int) < s.length := by omega
            have hkw : IntKind.i64.wrap ((k : Int) + 1) = (k : Int) + 1 := IntWalk.i64_in _ (by omega)
            have hgw := (hown.block (b := g) rfl).1
            have HO := Lib.hid hown
            clear hy hown
            go_wp2
            go_roundw
            case rel => exact ⟨k + 1, _, by go_num, by omega, HO.out.istored k _, Fr.setCell (p := ⟨g, k, none⟩) hfr (fun _ => ⟨hgw, rfl⟩) _⟩
            case measure => simp [intOf]; omega
          · have hd : decide ((k : Int) < s.length) = false := decide_eq_false (by omega)
            have hs3 := hfr.size
            have h6 : IdxU w1.heap.size wr x u s := H5.out.fr hfr (fun h => by have := h.1; omega) fun b hb h => by have := HUL.out b hb; have := h.1; omega
            have hv6 : Own (intE .u32) 28 w.heap.size wr (.slice oA l.length oc) l := HV5.out.fr hfr fun b hb h => by have := (HVL.out b hb).2; have := h.1; omega
            have hn6 : New w wr := New.two hn05 hfr fun i h => by have := h.1; have := hn1.size; omega
            clear hown hfr
            go_wp2_with fail
            refine (uequal_any _ _ _ _ _ hv6.rd (HV.out.new hn6) (by omega) (by omega)).mono ?_
            rw [decide_eq_true rfl]
            rintro e w6 ⟨rfl, hn66⟩
            have hn06 := hn6.trans hn66
            have H6 := Lib.hid (h6.new hn66)
            have HV6 := Lib.hid (hv6.new hn66)
            clear h6 hv6
            go_wp2
            go_loopw [58] (fun vi wr => ∃ (k : Nat) (d : List Int), vi = .int .i64 k ∧ k ≤ l.length ∧ Own (intE .u32) 28 w.heap.size wr (.slice oA l.length oc) d ∧ Fr (fun b => w.heap.size ≤ b ∧ Value.ownBlock (.slice oA l.length oc) = some b) w6 wr) (fun vi _ => l.length - (intOf vi).toNat)
            case atStart => exact ⟨0, _, rfl, Nat.zero_le _, HV6.out, Fr.refl _ _⟩
            case round =>
              obtain ⟨k, d, rfl, hk, hown, hfr⟩ := hrel
              by_cases hlt : k < l.length
              · have hd : decide ((k : Int) < l.length) = true := decide_eq_true (by omega)
                obtain ⟨g, rfl⟩ := hown.some1 (by omega)
                obtain ⟨y, hy⟩ : ∃ y, d[k]? = some y := ⟨_, List.getElem?_eq_getElem (by have := hown.ishape; omega)⟩
                have cy : wr.cell? ⟨g, k, none⟩ = some (.int .u32 y) := hown.icell hy
                have fy : wr.frozen? ⟨g, k, none⟩ = false := hown.ifrozen k
                have hkI : (k : Int) < l.length := by omega
                have hkw : IntKind.i64.wrap ((k : Int) + 1) = (k : Int) + 1 := IntWalk.i64_in _ (by omega)
                have hgw := (hown.block (b := g) rfl).1
                have HO := Lib.hid hown
                clear hy hown
                go_wp2
                go_roundw
                case rel => exact ⟨k + 1, _, by go_num, by omega, HO.out.istored k _, Fr.setCell (p := ⟨g, k, none⟩) hfr (fun _ => ⟨hgw, rfl⟩) _⟩
                case measure => simp [intOf]; omega
              · have hd : decide ((k : Int) < l.length) = false := decide_eq_false (by omega)
                have hs4 := hfr.size
                have h7 : IdxU w1.heap.size wr x u s := H6.out.fr hfr (fun h => (HOX.out _ h.2).1 rfl) fun b hb h => (HOX.out _ h.2).2 b hb rfl
                have hn7 : New w wr := New.two hn06 hfr fun i h => h.1
                have H7 := Lib.hid h7
                clear h7 hown hfr
                go_wp2_with fail
                refine (iat_nil 1 _).mono ?_
                rintro e w8 ⟨rfl, rfl⟩
                go_wp2_with fail
                refine (alive_any _).mono ?_
                rintro e w9 ⟨rfl, hn9⟩
                go_wp2_with fail
                refine (iall_any (H7.out.new hn9).at_ (by omega)).mono ?_
                rintro e w10 ⟨o10, rfl, ho10, hn10⟩
                obtain ⟨A10, c10, rfl, _⟩ := ho10.form
                go_wp2_with fail
                refine (HQ.out w10 ((hn7.trans hn9).trans hn10)).mono ?_
                rintro e w11 ⟨o11, rfl, ho11, hn11⟩
                obtain ⟨A11, c11, rfl, _⟩ := ho11.form
                go_wp2_with fail
                refine (uequal_any _ _ _ _ _ (ho10.new hn11).rd ho11.rd (by omega) (by omega)).mono ?_
                rw [decide_eq_true rfl]
                rintro e w12 ⟨rfl, hn12⟩
                go_wp2_with fail
                refine (ilen_nil _).mono ?_
                rintro e w13 ⟨rfl, rfl⟩
                go_wp2_with fail
                refine (pos_nil 1 _).mono ?_
                rintro e w14 ⟨rfl, rfl⟩
                go_wp2_with fail
                refine (irm_nil 1 _).mono ?_
                rintro e w15 ⟨rfl, hn15⟩
                go_wp2_with fail
                refine (iapp_nil 1 _).mono ?_
                rintro e w16 ⟨rfl, hn16⟩
                go_wp2_with fail
                refine (iall_nil _).mono ?_
                rintro e w17 ⟨rfl, rfl⟩
                go_wp2_with fail
                refine (between_nil 0 9 _).mono ?_
                rintro e w18 ⟨rfl, hn18⟩
                go_wp2
                go_ret
                exact ⟨rfl, ((((((hn7.trans hn9).trans hn10).trans hn11).trans hn12).trans hn15).trans hn16).trans hn18⟩

end Go.Proofs.Ytmhhmenhfocfjaa
