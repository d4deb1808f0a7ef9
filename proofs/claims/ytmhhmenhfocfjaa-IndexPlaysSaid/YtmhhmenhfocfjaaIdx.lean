/- An index: New. -/
import Derived.Test.YtmhhmenhfocfjaaCollectU
import Derived.Test.YtmhhmenhfocfjaaCompactU
import Derived.Test.YtmhhmenhfocfjaaIdxP
namespace Go.Proofs.Ytmhhmenhfocfjaa
open Go.RowKit

/-- The list that New keeps. -/
def idxOf (l : List Int) : List Int := match compactP (l.mergeSort fun x y => decide (x ≤ y)) with
  | [] => []
  | x :: t => if x = 0 then t else x :: t

theorem URow.notNew {base : Nat} {w : World} {v : Value} {l : List Int} (h : URow base w v l) : v.ownBlock ≠ some w.heap.size := fun e => absurd (h.block e).2 (Nat.lt_irrefl _)

theorem compactP_le (l : List Int) : (compactP l).length ≤ l.length := by
  induction l with
  | nil => simp [compactP]
  | cons x l ih =>
    unfold compactP
    split
    · simp; omega
    · simp; omega

set_option maxRecDepth 100000 in
set_option maxHeartbeats 1600000 in
theorem new_any {v : Value} {l : List Int} {w : World} (hv : Rd (intE .u32) w v l) (hl : l.length ≤ 1000) :
    Calls Try.prog 10 #[v] w fun e w' => ∃ x u, e = .returned (.pointer (some ⟨x, 0, none⟩)) ∧ w.heap.size ≤ x ∧ Blk w' x 54 #[u] ∧ Go.Proofs.Ytmhhmenhfocfjaa.URow w.heap.size w' u (idxOf l) ∧ u.ownBlock ≠ some x ∧ New w w' := by
  obtain ⟨A, c, rfl, _, _⟩ := hv.ints
  have hn1 : New w (w.alloc (.cells #[.slice A l.length c] 22)) := (New.refl w).alloc _
  have hbx : Blk (w.alloc (.cells #[.slice A l.length c] 22)) w.heap.size 22 #[.slice A l.length c] := Blk.new _ _ _
  have hcl0 := fun b hb hne => Rd.cell_lt hv (b := b) hb hne
  have hrb : RdBelow (w.alloc (.cells #[.slice A l.length c] 22)).heap.size (w.alloc (.cells #[.slice A l.length c] 22)) (.slice A l.length c) l :=
    RdBelow.of (hv.new hn1) fun hne b hb => by have := hcl0 b hb hne; simp; omega
  have hso := usorted_any w.heap.size (.slice A l.length c) l (by omega) _ hbx.lt (hbx.cell 0) hrb
  have HSO := Lib.hid hso
  have HV := fun a n cp W => Lib.hid (uvalues_any a n cp W)
  obtain ⟨s, hs⟩ : ∃ s, l.mergeSort (fun x y => decide (x ≤ y)) = s := ⟨_, rfl⟩
  have hsl : s.length = l.length := by rw [← hs, List.length_mergeSort]
  rw [hs] at HSO
  have hcl := compactP_le s
  have hidx : idxOf l = match compactP s with
    | [] => []
    | x :: t => if x = 0 then t else x :: t := by unfold idxOf; rw [hs]
  obtain ⟨m, hm⟩ : ∃ m, compactP s = m := ⟨_, rfl⟩
  rw [hm] at hcl hidx
  have hml : m.length ≤ 1000 := by omega
  have HSL := Lib.hid hsl
  have HM := Lib.hid hm
  rw [hidx]
  clear hso hidx hs hrb hcl0 hv hsl hm hcl
  go_enter Try.func10, Try.ntmps10
  go_wp2_with fail
  refine (HV _ _ _ _).out.mono ?_
  rintro e w1 ⟨rfl, rfl⟩
  go_wp2_with fail
  refine HSO.out.mono ?_
  rintro e w2 ⟨v2, rfl, hown2, hn2⟩
  have HC := Lib.hid (ucompact_any _ _ _ _ hown2 (by have := HSL.out; omega))
  have hn2' := hn1.trans hn2
  obtain ⟨A2, n2, c2, rfl⟩ := own_shape hown2
  have HOB := Lib.hid (fun b hb => (hown2.block (b := b) hb).1)
  go_wp2_with fail
  refine HC.out.mono ?_
  rintro e w3 ⟨o, rfl, hown3, hf3, ho3⟩
  rw [HM.out] at hown3
  have hn3 : New w w3 := New.two hn2' hf3 (fun b hb => Nat.le_trans (by simp) (HOB.out b hb))
  have hown4 : Go.Proofs.Ytmhhmenhfocfjaa.Own (intE .u32) 28 w.heap.size w3 o m := hown3.mono (by simp)
  clear hown3 hf3 ho3 hown2 HOB
  have hrow := URow.of_own hown4
  cases m with
  | nil =>
    obtain ⟨A3, c3, rfl, _⟩ := hown4.form
    have HR := Lib.hid hrow
    clear hown4 hrow
    go_wp2
    go_ret
    exact ⟨_, rfl, hn3.size, _, Blk.new _ _ _, HR.out.new ((New.refl _).alloc _), HR.out.notNew, hn3.alloc _⟩
  | cons x t =>
    obtain ⟨A3, c3, rfl, hc3⟩ := hown4.form
    obtain ⟨g, rfl⟩ := hown4.some1 (by simp)
    have hc0 : w3.cell? ⟨g, 0, none⟩ = some (.int .u32 x) := hown4.icell (k := 0) rfl
    have hlen : (((x :: t).length : Nat) : Int) = (t.length : Int) + 1 := by simp
    have HR := Lib.hid hrow
    by_cases hx : x = 0
    · subst hx
      have ht := URow.tail hrow
      rw [Nat.zero_add, show (0 :: t).length - 1 = t.length by simp] at ht
      have HT := Lib.hid ht
      have hT0 : c3 = 1 → Go.Proofs.Ytmhhmenhfocfjaa.URow w.heap.size w3 (.slice (some ⟨g, 0, none⟩) t.length 0) t := fun h1 => by
        obtain rfl : t = [] := List.eq_nil_of_length_eq_zero (by simp at hc3; omega)
        have hb := hrow.block (b := g) rfl
        exact .inr ⟨g, 0, 0, rfl, hb.1, hb.2, Nat.le_refl _, Nat.zero_le _, fun i x hx => by simp at hx, fun j hj => by omega⟩
      have HT0 := Lib.hid hT0
      simp only [List.length_cons] at *
      clear hown4 hrow ht hT0
      go_wp2
      all_goals go_ret
      all_goals first
        | exact ⟨_, rfl, hn3.size, _, Blk.new _ _ _, HT.out.new ((New.refl _).alloc _), HT.out.notNew, hn3.alloc _⟩
        | exact ⟨_, rfl, hn3.size, _, Blk.new _ _ _, (HT0.out (by first | assumption | omega)).new ((New.refl _).alloc _), (HT0.out (by first | assumption | omega)).notNew, hn3.alloc _⟩
    · have hx0 : (x == 0) = false := by simp [hx]
      clear hown4 hrow
      simp only [List.length_cons] at *
      go_wp2
      go_ret
      have hR := HR.out
      first
        | exact ⟨_, rfl, hn3.size, _, Blk.new _ _ _, hR.new ((New.refl _).alloc _), hR.notNew, hn3.alloc _⟩
        | (rw [if_neg hx]; exact ⟨_, rfl, hn3.size, _, Blk.new _ _ _, hR.new ((New.refl _).alloc _), hR.notNew, hn3.alloc _⟩)

end Go.Proofs.Ytmhhmenhfocfjaa
