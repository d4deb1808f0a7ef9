/- IndexBetween: the walk. -/
import Derived.Test.YtmhhmenhfocfjaaIdxAlive
import Derived.OpenShut
namespace Go.Proofs.Ytmhhmenhfocfjaa
open Go.RowKit

theorem wf_ge {l : List Int} {q : IntKind} (h : ∀ y ∈ l, (Lit.int q y).wf = true) (hq : q = .u32) : (∀ y ∈ l, 0 ≤ y) ∧ ∀ y ∈ l, y ≤ 4294967295 := by
  subst hq
  refine ⟨fun y hy => ?_, fun y hy => ?_⟩ <;> (have := bounds_u32 (h y hy); omega)

theorem betP_all {s : List Int} (h0 : ∀ y ∈ s, 0 ≤ y) (h1 : ∀ y ∈ s, y ≤ 4294967295) : betP s 0 4294967295 = s :=
  List.filter_eq_self.2 fun y hy => by have := h0 y hy; have := h1 y hy; simp; omega
theorem betP_len (s : List Int) (lo hi : Int) : (betP s lo hi).length ≤ s.length := List.length_filter_le _ _

set_option maxHeartbeats 6400000 in
theorem between_law (x : Value × List Int) (lo hi : Int) (w : World) (h : Rd (intE .u32) w x.1 x.2 ∧ (∀ y ∈ x.2, (Lit.int .u32 y).wf = true) ∧ x.2.length ≤ maxLen) (_ : 0 ≤ lo) (_ : lo ≤ 4294967295) (_ : 0 ≤ hi) (_ : hi ≤ 4294967295) :
    Calls Try.prog 6 #[x.1, .int .u32 lo, .int .u32 hi] w fun e w' => e = .returned (.bool true) ∧ New w w' := by
  obtain ⟨v, l⟩ := x
  obtain ⟨hv, hw, _⟩ := h
  dsimp only at hv hw ⊢
  obtain ⟨h0, hmax⟩ := wf_ge hw rfl
  have HV := Lib.hid hv
  obtain ⟨A, c, rfl, hc, _⟩ := hv
  rcases Nat.lt_or_ge 100 l.length with hl | hl
  · go_enter Try.func6, Try.ntmps6
    go_wp2_with fail
    refine (alive_any _).mono ?_
    rintro e w1 ⟨rfl, hn1⟩
    go_wp2
    go_ret
    exact ⟨rfl, hn1⟩
  · have ha := idxOf_asc l h0
    have hsl := idxOf_len l
    have hm0 : ∀ y ∈ idxOf l, 0 ≤ y := fun y hy => h0 y ((ha.2 y).1 hy).1
    have hm1 : ∀ y ∈ idxOf l, y ≤ 4294967295 := fun y hy => hmax y ((ha.2 y).1 hy).1
    have hall := betP_all hm0 hm1
    have HQ := Lib.hid (fun w2 (h : New w w2) => qrnew (HV.out.new h) (by omega) h0)
    obtain ⟨s, hs⟩ : ∃ s, idxOf l = s := ⟨_, rfl⟩
    rw [hs] at ha hsl hall
    have HA := Lib.hid ha.1
    have HALL := Lib.hid hall
    have HNW := Lib.hid (qnew HV.out (by omega))
    rw [hs] at HNW HQ
    clear hs ha hm0 hm1 hall hw h0 hmax
    have hbl := betP_len s lo hi
    go_enter Try.func6, Try.ntmps6
    go_wp2_with fail
    refine HNW.out.mono ?_
    rintro e w1 ⟨x, u, rfl, hx, h1, hn1⟩
    go_wp2_with fail
    refine (HQ.out w1 hn1).mono ?_
    rintro e w2 ⟨o, rfl, ho2, hn2⟩
    have h2 := h1.new hn2
    obtain ⟨oA, oc, rfl, _⟩ := ho2.form
    go_wp2_with fail
    refine (alive_any _).mono ?_
    rintro e w3 ⟨rfl, hn3⟩
    have h3 := h2.new hn3
    have ho3 := ho2.new hn3
    go_wp2_with fail
    refine (qbetween h3 HA.out (by omega) lo hi).mono ?_
    rintro e w4 ⟨o4, rfl, ho4, hn4⟩
    obtain ⟨A4, c4, rfl, _⟩ := ho4.form
    go_wp2_with fail
    refine (rbetween_any (ho3.new hn4).rd (by omega) lo hi).mono ?_
    rintro e w5 ⟨o5, rfl, ho5, hn5⟩
    have ho5' : Own (intE .u32) 28 w4.heap.size w5 o5 (betP s lo hi) := ho5
    clear ho5
    obtain ⟨A5, c5, rfl, _⟩ := ho5'.form
    go_wp2_with fail
    refine (uequal_any _ _ _ _ _ (ho4.new hn5).rd ho5'.rd (by omega) (by omega)).mono ?_
    rw [decide_eq_true rfl]
    rintro e w6 ⟨rfl, hn6⟩
    have h6 := ((h3.new hn4).new hn5).new hn6
    have ho6 := ((ho3.new hn4).new hn5).new hn6
    go_wp2_with fail
    refine (qbetween h6 HA.out (by omega) 0 4294967295).mono ?_
    rw [HALL.out]
    rintro e w7 ⟨o7, rfl, ho7, hn7⟩
    obtain ⟨A7, c7, rfl, _⟩ := ho7.form
    go_wp2_with fail
    refine (uequal_any _ _ _ _ _ ho7.rd (ho6.new hn7).rd (by omega) (by omega)).mono ?_
    rw [decide_eq_true rfl]
    rintro e w8 ⟨rfl, hn8⟩
    go_wp2
    go_ret
    exact ⟨rfl, ((((((hn1.trans hn2).trans hn3).trans hn4).trans hn5).trans hn6).trans hn7).trans hn8⟩

end Go.Proofs.Ytmhhmenhfocfjaa
