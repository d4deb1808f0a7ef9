/- An index over an ascending list: what its functions and the reference's hand back, in the same plain words. -/
import Derived.Test.YtmhhmenhfocfjaaIdxRm
import Derived.Test.YtmhhmenhfocfjaaBetween
import Derived.Test.YtmhhmenhfocfjaaSort02
import Derived.Test.YtmhhmenhfocfjaaRef12
namespace Go.Proofs.Ytmhhmenhfocfjaa
open Go.RowKit

theorem Asc.filter {s : List Int} (h : Asc s) (p : Int → Bool) : Asc (s.filter p) := List.Pairwise.filter p h

/-- What Append makes of a list. -/
def appP (s : List Int) (uid : Int) : List Int × Bool := if uid = 0 ∨ ∃ y, s.getLast? = some y ∧ uid ≤ y then (s, false) else (s ++ [uid], true)
def betP (s : List Int) (lo hi : Int) : List Int := s.filter fun y => decide (lo ≤ y) && decide (y ≤ hi)

theorem Asc.last {s : List Int} (h : Asc s) {y z : Int} (hy : s.getLast? = some y) (hz : z ∈ s) : z ≤ y := by
  obtain ⟨i, hi⟩ := List.mem_iff_getElem?.1 hz
  have hl := (List.getElem?_eq_some_iff.1 hi).1
  rw [List.getLast?_eq_getElem?] at hy
  by_cases he : i = s.length - 1
  · subst he; rw [hi] at hy; cases hy; omega
  · have := h.get hi hy (by omega); omega

theorem appOf_eq {s : List Int} (h : Asc s) {uid : Int} {k : Nat} (hk : FindAt s uid k) : appOf s uid k = appP s uid := by
  unfold appOf appP
  have hiff : k < s.length ↔ ∃ y, s.getLast? = some y ∧ uid ≤ y := by
    constructor
    · intro hlt
      rcases hk.2.2 with h1 | ⟨y, hy, hu⟩
      · omega
      · obtain ⟨z, hz⟩ : ∃ z, s.getLast? = some z := by
          rw [List.getLast?_eq_getElem?]
          exact ⟨_, List.getElem?_eq_getElem (by omega)⟩
        exact ⟨z, hz, Int.le_trans hu (h.last hz (List.mem_of_getElem? hy))⟩
    · rintro ⟨y, hy, hu⟩
      rw [List.getLast?_eq_getElem?] at hy
      have hl := (List.getElem?_eq_some_iff.1 hy).1
      rcases Nat.lt_or_ge (s.length - 1) k with h1 | h1
      · have := (hk.below h hy).1 h1; omega
      · omega
  by_cases h1 : uid = 0 ∨ k < s.length
  · rw [if_pos h1, if_pos (h1.imp id hiff.1)]
  · rw [if_neg h1, if_neg (fun h2 => h1 (h2.imp id hiff.2))]

theorem Asc.app {s : List Int} (h : Asc s) (uid : Int) : Asc (appP s uid).1 := by
  unfold appP
  split
  · exact h
  · rename_i hn
    refine List.pairwise_append.2 ⟨h, by simp, fun a ha b hb => ?_⟩
    rw [List.mem_singleton.1 hb]
    obtain ⟨z, hz⟩ : ∃ z, s.getLast? = some z := by
      cases s with
      | nil => simp at ha
      | cons x s => exact ⟨_, List.getLast?_cons⟩
    have h1 := h.last hz ha
    rcases Int.lt_or_le a uid with h2 | h2
    · exact h2
    · exact absurd (.inr ⟨z, hz, by omega⟩) hn
theorem appP_length (s : List Int) (uid : Int) : (appP s uid).1.length ≤ s.length + 1 := by
  unfold appP
  split
  · simp
  · simp

theorem eraseIdx_filter {s : List Int} (h : Asc s) {k : Nat} {u : Int} (hk : s[k]? = some u) : s.eraseIdx k = s.filter fun y => y != u := by
  induction s generalizing k with
  | nil => simp at hk
  | cons x s ih =>
    cases k with
    | zero =>
      obtain rfl : x = u := by simpa using hk
      rw [List.eraseIdx_cons_zero, List.filter_cons]
      simp only [bne_self_eq_false, Bool.false_eq_true, if_false]
      exact (List.filter_eq_self.2 fun y hy => by have := h.head hy; simp; omega).symm
    | succ k =>
      have hk' : s[k]? = some u := by simpa using hk
      have := h.head (List.mem_of_getElem? hk')
      rw [List.eraseIdx_cons_succ, ih h.tail hk', List.filter_cons]
      have hxu : (x != u) = true := by simp; omega
      rw [if_pos hxu]

theorem rmOf_eq {s : List Int} (h : Asc s) {uid : Int} {k : Nat} (hk : FindAt s uid k) : rmOf s uid k = s.filter fun y => y != uid := by
  unfold rmOf
  split
  · rename_i h1
    exact eraseIdx_filter h h1
  · rename_i h1
    refine (List.filter_eq_self.2 fun y hy => ?_).symm
    have : y ≠ uid := by
      rintro rfl
      exact h1 ((hk.mem h).1 hy)
    simpa using this

theorem betOf_eq {s : List Int} (h : Asc s) {lo hi : Int} {k : Nat} (hk : FindAt s lo k) : betOf s hi k = betP s lo hi := by
  have h1 : betP s lo hi = (s.drop k).filter fun y => decide (y ≤ hi) := by
    unfold betP
    conv => lhs; rw [← List.take_append_drop k s]
    rw [List.filter_append]
    have e1 : ((s.take k).filter fun y => decide (lo ≤ y) && decide (y ≤ hi)) = [] := by
      rw [List.filter_eq_nil_iff]
      intro y hy
      obtain ⟨i, hi'⟩ := List.mem_iff_getElem?.1 hy
      have hik : i < k := by have := (List.getElem?_eq_some_iff.1 hi').1; rw [List.length_take] at this; omega
      rw [List.getElem?_take_of_lt hik] at hi'
      have := (hk.below h hi').1 hik
      simp
      omega
    rw [e1, List.nil_append]
    refine List.filter_congr fun y hy => ?_
    obtain ⟨i, hi'⟩ := List.mem_iff_getElem?.1 hy
    rw [List.getElem?_drop] at hi'
    have h2 : ¬ y < lo := fun hlt => by have := (hk.below h hi').2 hlt; omega
    simp
    omega
  rw [h1]
  unfold betOf
  have ha : Asc (s.drop k) := List.Pairwise.sublist (List.drop_sublist k s) h
  revert ha
  generalize s.drop k = d
  intro ha
  induction d with
  | nil => rfl
  | cons x d ih =>
    rw [List.takeWhile_cons, List.filter_cons]
    by_cases hx : x ≤ hi
    · simp only [hx, decide_true, if_true]
      rw [ih ha.tail]
    · simp only [hx, decide_false, Bool.false_eq_true, if_false]
      symm
      rw [List.filter_eq_nil_iff]
      intro y hy
      have := ha.head hy
      simp
      omega

theorem RefPos.eq {s : List Int} {uid r : Int} (h : RefPos s uid r) : r = placeOf s uid := by
  rcases h with ⟨rfl, hn⟩ | ⟨k, rfl, hk, hn⟩
  · exact (placeOf_none hn).symm
  · unfold placeOf
    rw [if_pos (List.mem_of_getElem? hk), idxOf_at hk hn]

theorem idxOf_len (l : List Int) : (idxOf l).length ≤ l.length := by
  have h := compactP_le (l.mergeSort fun x y => decide (x ≤ y))
  rw [List.length_mergeSort] at h
  unfold idxOf
  split
  · simp
  · rename_i x t hc
    rw [hc] at h
    simp at h
    split
    · omega
    · simp; omega

section
variable {base x : Nat} {w : World} {u : Value} {s : List Int}
theorem qnew {v : Value} {l : List Int} (hv : Rd (intE .u32) w v l) (hl : l.length ≤ 1000) :
    Calls Try.prog 10 #[v] w fun e w' => ∃ x u, e = .returned (.pointer (some ⟨x, 0, none⟩)) ∧ w.heap.size ≤ x ∧ IdxU w.heap.size w' x u (idxOf l) ∧ New w w' :=
  (new_any hv hl).mono fun _ _ ⟨x, u, h1, h2, h3, h4, h5, h6⟩ => ⟨x, u, h1, h2, ⟨h3, h4, h5⟩, h6⟩
theorem qpos (h : IdxU base w x u s) (ha : Asc s) (hl : s.length ≤ 100000) (uid : Int) :
    Calls Try.prog 12 #[.pointer (some ⟨x, 0, none⟩), .int .u32 uid] w fun e w' => e = .returned (.int .i64 (placeOf s uid)) ∧ New w w' :=
  (pos_any h.at_ hl uid).mono fun _ _ ⟨k, h1, h2, h3⟩ => ⟨by rw [h1]; exact congrArg (fun z => Ending.returned (.int .i64 z)) (posAt_place ha h2), h3⟩
theorem qrm (h : IdxU base w x u s) (ha : Asc s) (hl : s.length ≤ 100000) (uid : Int) :
    Calls Try.prog 11 #[.pointer (some ⟨x, 0, none⟩), .int .u32 uid] w fun e w' => ∃ u', e = .returned (.int .i64 (placeOf s uid)) ∧ IdxU base w' x u' (s.filter fun y => y != uid) ∧ IFr x u w w' ∧ Stays w u u' :=
  (irm_any h hl uid).mono fun _ _ ⟨k, u', h1, h2, h3, h4, h5⟩ => ⟨u', by rw [h1]; exact congrArg (fun z => Ending.returned (.int .i64 z)) (posAt_place ha h2), by rw [← rmOf_eq ha h2]; exact h3, h4, h5⟩
theorem qapp (h : IdxU base w x u s) (ha : Asc s) (hb : base ≤ w.heap.size) (hl : s.length ≤ 100000) (uid : Int) :
    Calls Try.prog 17 #[.pointer (some ⟨x, 0, none⟩), .int .u32 uid] w fun e w' => ∃ u', e = .returned (.bool (appP s uid).2) ∧ IdxU base w' x u' (appP s uid).1 ∧ IFr x u w w' ∧ Stays w u u' :=
  (iapp_any h hb hl uid).mono fun _ _ ⟨k, u', h1, h2, h3, h4, h5⟩ => ⟨u', by rw [h1, appOf_eq ha h2], by rw [← appOf_eq ha h2]; exact h3, h4, h5⟩
theorem qbetween (h : IdxU base w x u s) (ha : Asc s) (hl : s.length ≤ 100000) (lo hi : Int) :
    Calls Try.prog 21 #[.pointer (some ⟨x, 0, none⟩), .int .u32 lo, .int .u32 hi] w fun e w' => ∃ o, e = .returned o ∧ Own (intE .u32) 28 w.heap.size w' o (betP s lo hi) ∧ New w w' :=
  (between_any h hl lo hi).mono fun _ _ ⟨k, o, h1, h2, h3, h4⟩ => ⟨o, h1, by rw [← betOf_eq ha h2]; exact h3, h4⟩
theorem qrpos {v : Value} (hv : Rd (intE .u32) w v s) (hl : s.length ≤ 100000) (uid : Int) :
    Calls Try.prog 14 #[v, .int .u32 uid] w fun e w' => e = .returned (.int .i64 (placeOf s uid)) ∧ New w w' :=
  (rpos_any hv hl uid).mono fun _ _ ⟨r, h1, h2, h3⟩ => ⟨by rw [h1, h2.eq], h3⟩
end

set_option maxHeartbeats 1000000 in
theorem qrnew {v : Value} {w : World} {l : List Int} (hv : Rd (intE .u32) w v l) (hl : l.length ≤ 100000) (h0 : ∀ x ∈ l, 0 ≤ x) :
    Calls Try.prog 8 #[v] w fun e w' => ∃ o, e = .returned o ∧ Own (intE .u32) 28 w.heap.size w' o (idxOf l) ∧ New w w' := by
  have HS := Lib.hid (rsorted_any hv hl)
  obtain ⟨A, c, rfl, _⟩ := hv
  go_enter Try.func8, Try.ntmps8
  go_wp2_with fail
  refine HS.out.mono ?_
  rintro e w1 ⟨o, s, rfl, ho, hs, _, hn⟩
  obtain rfl := hs.ext (idxOf_asc l h0)
  obtain ⟨A1, c1, rfl, _⟩ := ho.form
  have HO := Lib.hid ho
  clear ho
  go_wp2
  go_ret
  exact ⟨_, rfl, HO.out, hn⟩

set_option maxHeartbeats 3200000 in
theorem rapp_any {base : Nat} {v : Value} {w : World} {s : List Int} (hv : Own (intE .u32) 28 base w v s) (hb : base ≤ w.heap.size) (hl : s.length ≤ 100000) (uid : Int) :
    Calls Try.prog 16 #[v, .int .u32 uid] w fun e w' => ∃ A n c, e = .returned (.tuple #[.slice A n c, .bool (appP s uid).2]) ∧ Own (intE .u32) 28 base w' (.slice A n c) (appP s uid).1 ∧ Stays w v (.slice A n c) ∧ New w w' := by
  obtain ⟨i0, hi, hz0, hz1, hz2⟩ := info_parts u32_info
  have HO := Lib.hid hv
  obtain ⟨A, c, rfl, hlc⟩ := hv.form
  have hcell := fun (g : Nat) (e : A = some ⟨g, 0, none⟩) (j : Nat) (x : Int) (hx : s[j]? = some x) => (by subst e; exact hv.icell hx : w.cell? ⟨g, j, none⟩ = some (.int .u32 x))
  have HC := Lib.hid hcell
  have HG := Lib.hid (fun h : 0 < s.length => hv.some1 h)
  clear hv hcell
  obtain ⟨r, hr⟩ : ∃ r, (appP s uid).1 = r := ⟨_, rfl⟩
  obtain ⟨q, hq⟩ : ∃ q, (appP s uid).2 = q := ⟨_, rfl⟩
  rw [hr, hq]
  have HR : Hid (appP s uid = (r, q)) := by rw [← hr, ← hq]; rfl
  clear hr hq
  have h0 := Own.empty (intE .u32) 28 w.heap.size w (Nat.le_refl _)
  cases hu0 : (uid == 0)
  · have hU := Lib.hid (show uid ≠ 0 by simpa using hu0)
    by_cases hs0 : 0 < s.length
    · obtain ⟨g, rfl⟩ := HG.out hs0
      obtain ⟨y, hy⟩ : ∃ y, s[s.length - 1]? = some y := ⟨_, List.getElem?_eq_getElem (by omega)⟩
      have hlast : s.getLast? = some y := by rw [List.getLast?_eq_getElem?]; exact hy
      have HL := Lib.hid hlast
      have cy : w.cell? ⟨g, s.length - 1, none⟩ = some (.int .u32 y) := HC.out g rfl _ _ hy
      have hd : decide ((0 : Int) < (s.length : Int)) = true := decide_eq_true (by omega)
      have hd2 : decide (0 < s.length) = true := decide_eq_true hs0
      have hw1 : IntKind.i64.wrap ((s.length : Int) - 1) = (s.length : Int) - 1 := IntWalk.i64_in _ (by omega)
      have hw2 : ((s.length : Int) - 1).toNat = s.length - 1 := by omega
      have hw3 : 0 ≤ (s.length : Int) - 1 := by omega
      have hw4 : (s.length : Int) - 1 < s.length := by omega
      clear hy hlast
      cases hq : decide (uid ≤ y)
      · have hRR := HR.out.symm.trans (if_neg (by
            rintro (h | ⟨z, hz, hzu⟩)
            · exact hU.out h
            · rw [HL.out] at hz; cases hz; simp at hq; omega))
        obtain ⟨rfl, rfl⟩ := Prod.mk.inj hRR
        clear hRR HR
        go_enter Try.func16, Try.ntmps16
        go_wp2_with (first
          | (at_builtin; refine wpList_append (E := intE .u32) (l := []) rfl (.tmp 24) (.tmp 25) _ rfl Try.underlying22 hi hz0 hz1 hz2 rfl h0 rfl (HO.out.rd.alloc _) rfl (by unfold maxLen; simp; omega) (by simp; omega) (by simp) ?_; intro v1 w1 hv1 hf1 hl1; rw [List.nil_append] at hv1; have hn1 : New w w1 := New.append ((New.refl w).alloc _) h0 hf1; obtain ⟨A1, n1, c1, rfl⟩ := own_shape hv1)
          | (at_builtin; refine wpList_push (E := intE .u32) rfl (.tmp 26) (.tmp 28) _ rfl Try.underlying22 hi hz0 hz1 hz2 rfl (hv1.alloc _) rfl uid w1.heap.size (Blk.new _ _ _) 1 rfl (by unfold maxLen; omega) (by omega) (by have := hn1.size; simp; omega) ?_; intro v2 w2 hv2 hf2 hl2; have hn2 : New w w2 := New.append (hn1.alloc _) (hv1.alloc _) hf2; obtain ⟨A2, n2, c2, rfl⟩ := own_shape hv2))
        go_ret2
        refine ⟨A2, n2, c2, rfl, hv2.mono hb, .inr ?_, hn2⟩
        obtain ⟨g2, hg2⟩ : ∃ g2, A2 = some ⟨g2, 0, none⟩ := hv2.some1 (by obtain ⟨_, _, he, _⟩ := hv2.form; injection he with _ he; rw [he]; simp)
        subst hg2
        exact ⟨g2, rfl, (hv2.block rfl).1⟩
      · have hRR := HR.out.symm.trans (if_pos (.inr ⟨y, HL.out, by simpa using hq⟩))
        obtain ⟨rfl, rfl⟩ := Prod.mk.inj hRR
        clear hRR HR
        go_enter Try.func16, Try.ntmps16
        go_wp2
        go_ret2
        exact ⟨_, _, _, rfl, HO.out, .inl rfl, New.refl w⟩
    · have hnil : s = [] := List.eq_nil_of_length_eq_zero (by omega)
      have hRR := HR.out.symm.trans (if_neg (by
            rintro (h | ⟨z, hz, hzu⟩)
            · exact hU.out h
            · rw [hnil] at hz; cases hz))
      obtain ⟨rfl, rfl⟩ := Prod.mk.inj hRR
      have hd : decide ((0 : Int) < (s.length : Int)) = false := decide_eq_false (by omega)
      have hd2 : decide (0 < s.length) = false := decide_eq_false hs0
      clear hRR HR hnil
      go_enter Try.func16, Try.ntmps16
      go_wp2_with (first
        | (at_builtin; refine wpList_append (E := intE .u32) (l := []) rfl (.tmp 24) (.tmp 25) _ rfl Try.underlying22 hi hz0 hz1 hz2 rfl h0 rfl (HO.out.rd.alloc _) rfl (by unfold maxLen; simp; omega) (by simp; omega) (by simp) ?_; intro v1 w1 hv1 hf1 hl1; rw [List.nil_append] at hv1; have hn1 : New w w1 := New.append ((New.refl w).alloc _) h0 hf1; obtain ⟨A1, n1, c1, rfl⟩ := own_shape hv1)
        | (at_builtin; refine wpList_push (E := intE .u32) rfl (.tmp 26) (.tmp 28) _ rfl Try.underlying22 hi hz0 hz1 hz2 rfl (hv1.alloc _) rfl uid w1.heap.size (Blk.new _ _ _) 1 rfl (by unfold maxLen; omega) (by omega) (by have := hn1.size; simp; omega) ?_; intro v2 w2 hv2 hf2 hl2; have hn2 : New w w2 := New.append (hn1.alloc _) (hv1.alloc _) hf2; obtain ⟨A2, n2, c2, rfl⟩ := own_shape hv2))
      go_ret2
      refine ⟨A2, n2, c2, rfl, hv2.mono hb, .inr ?_, hn2⟩
      obtain ⟨g2, hg2⟩ : ∃ g2, A2 = some ⟨g2, 0, none⟩ := hv2.some1 (by obtain ⟨_, _, he, _⟩ := hv2.form; injection he with _ he; rw [he]; simp)
      subst hg2
      exact ⟨g2, rfl, (hv2.block rfl).1⟩
  · have hRR := HR.out.symm.trans (if_pos (.inl (by simpa using hu0)))
    obtain ⟨rfl, rfl⟩ := Prod.mk.inj hRR
    clear hRR HR
    go_enter Try.func16, Try.ntmps16
    go_wp2
    go_ret2
    exact ⟨_, _, _, rfl, HO.out, .inl rfl, New.refl w⟩

end Go.Proofs.Ytmhhmenhfocfjaa
