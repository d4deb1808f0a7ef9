/- EventSqueezes: the walk. -/
import Derived.Test.YtjaapenojppnpaaEvAlive
import Derived.Test.YtjaapenojppnpaaRefQ15
namespace Go.Proofs.Ytjaapenojppnpaa
open Go.RowKit

theorem later_squeeze (e : Ev) (l : List Ev) : later e (squeeze l) = later e l := by
  induction l with
  | nil => rfl
  | cons x l ih =>
    rw [squeeze]
    split
    · rename_i h
      rw [ih]
      have h2 : later x (l.drop 0) = true := h
      obtain ⟨h3, i, y, _, hy, hyk, hyu⟩ := later_iff.1 h2
      unfold later
      by_cases he : e.k = 3 ∧ x.u = e.u
      · have : l.any (fun z => decide (z.k = 3) && decide (z.u = e.u)) = true := List.any_eq_true.2 ⟨y, List.mem_of_getElem? hy, by simp [hyk, hyu, he.2]⟩
        rw [List.any_cons, this]; simp
      · rw [List.any_cons]
        by_cases h5 : e.k = 3
        · have h6 : x.u ≠ e.u := fun h => he ⟨h5, h⟩
          simp [h6]
        · simp [h5]
    · unfold later
      rw [List.any_cons, List.any_cons]
      unfold later at ih
      by_cases h5 : e.k = 3
      · simp only [h5, decide_true, Bool.true_and] at ih ⊢
        rw [ih]
      · simp [h5]

theorem squeeze_idem (l : List Ev) : squeeze (squeeze l) = squeeze l := by
  induction l with
  | nil => rfl
  | cons x l ih =>
    rw [squeeze]
    split
    · exact ih
    · rename_i h
      rw [squeeze, later_squeeze, if_neg h, ih]

set_option maxHeartbeats 1600000 in
theorem squeezes_any (x : Value × List Ev) (w : World) (h : Rd evE w x.1 x.2 ∧ ∀ y ∈ x.2, y.wf) :
    Calls Try.prog 3 #[x.1] w fun e w' => e = .returned (.bool true) ∧ New w w' := by
  obtain ⟨v, l⟩ := x
  obtain ⟨hv, hw⟩ := h
  dsimp only at hv hw ⊢
  obtain ⟨i0, hi, hz0, hz1, hz2⟩ := info_parts ev_info
  have h0 := Own.empty evE 29 w.heap.size w (Nat.le_refl _)
  have HV := Lib.hid hv
  obtain ⟨A, c, rfl, hc, hcells⟩ := hv
  clear hcells
  rcases Nat.lt_or_ge 100 l.length with hl | hl
  · go_enter Try.func3, Try.ntmps3
    go_wp2_with fail
    refine (alive_any _).mono ?_
    rintro e w1 ⟨rfl, hn1⟩
    go_wp2
    go_ret
    exact ⟨rfl, hn1⟩
  · go_enter Try.func3, Try.ntmps3
    go_wp2_with (at_builtin; refine wpList_append (E := evE) rfl _ _ _ rfl Try.underlying22 hi hz0 hz1 hz2 rfl h0 rfl (HV.out.alloc _) rfl (by unfold maxLen; simp; omega) (by simp; omega) (by simp) ?_; intro v1 w1 hv1 hf1 hl1)
    have hn1 : New w w1 := New.append ((New.refl w).alloc _) h0 hf1
    rw [List.nil_append] at hv1
    clear h0 hf1 hl1
    go_wp2_with fail
    refine (squeeze_any _ l _ hv1.rd hw (by omega)).mono ?_
    rintro e w2 ⟨s, rfl, hs, hn2⟩
    go_wp2_with fail
    refine (alive_any _).mono ?_
    rintro e w3 ⟨rfl, hn3⟩
    go_wp2_with fail
    refine (rsqueeze_any _ l _ (((HV.out.new hn1).new hn2).new hn3) (by omega)).mono ?_
    rintro e w4 ⟨r, rfl, hr, hn4⟩
    have hs4 := (hs.new hn3).new hn4
    have hsl := squeeze_length l
    go_wp2_with fail
    refine (equal_any _ _ _ _ _ hs4.rd hr.rd (by omega) (by omega)).mono ?_
    rintro e w5 ⟨rfl, hn5⟩
    rw [decide_eq_true (Eq.refl _)]
    have hs5 := hs4.new hn5
    go_wp2_with fail
    refine (squeeze_any _ _ _ hs5.rd (fun y hy => hw y (squeeze_mem hy)) (by omega)).mono ?_
    rintro e w6 ⟨s2, rfl, hs2, hn6⟩
    rw [squeeze_idem] at hs2
    go_wp2_with fail
    refine (equal_any _ _ _ _ _ hs2.rd (hs5.new hn6).rd (by omega) (by omega)).mono ?_
    rintro e w7 ⟨rfl, hn7⟩
    rw [decide_eq_true (Eq.refl _)]
    have hn17 := ((((hn2.trans hn3).trans hn4).trans hn5).trans hn6).trans hn7
    go_wp2_with fail
    refine (equal_any _ _ l l _ (hv1.new hn17).rd ((HV.out.new hn1).new hn17) (by omega) (by omega)).mono ?_
    rintro e w8 ⟨rfl, hn8⟩
    rw [decide_eq_true (Eq.refl _)]
    go_wp2
    go_ret
    exact ⟨rfl, (hn1.trans hn17).trans hn8⟩

end Go.Proofs.Ytjaapenojppnpaa
