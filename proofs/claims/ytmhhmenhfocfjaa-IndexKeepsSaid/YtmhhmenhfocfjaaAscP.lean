/- Strictly ascending lists of integers: the one with given members, insertion, search, removal. Plain lemmas; of no program. -/
import Derived.Test.YtmhhmenhfocfjaaIdx
import Derived.Test.YtmhhmenhfocfjaaFind
namespace Go.Proofs.Ytmhhmenhfocfjaa
open Go.RowKit

/-- Strictly ascending. -/
def Asc (s : List Int) : Prop := s.Pairwise (· < ·)

theorem Asc.nil : Asc [] := List.Pairwise.nil
theorem Asc.tail {x : Int} {s : List Int} (h : Asc (x :: s)) : Asc s := (List.pairwise_cons.1 h).2
theorem Asc.head {x : Int} {s : List Int} (h : Asc (x :: s)) {y : Int} (hy : y ∈ s) : x < y := (List.pairwise_cons.1 h).1 y hy

theorem Asc.ext {s t : List Int} (hs : Asc s) (ht : Asc t) (h : ∀ x, x ∈ s ↔ x ∈ t) : s = t := by
  induction s generalizing t with
  | nil =>
    cases t with
    | nil => rfl
    | cons y t => exact absurd ((h y).2 (by simp)) (by simp)
  | cons x s ih =>
    cases t with
    | nil => exact absurd ((h x).1 (by simp)) (by simp)
    | cons y t =>
      have hxy : x = y := by
        have h1 := (h x).1 (by simp)
        have h2 := (h y).2 (by simp)
        rcases List.mem_cons.1 h1 with h1 | h1
        · exact h1
        · rcases List.mem_cons.1 h2 with h2 | h2
          · exact h2.symm
          · have := hs.head h2; have := ht.head h1; omega
      subst hxy
      refine congrArg _ (ih hs.tail ht.tail fun z => ?_)
      constructor
      · intro hz
        have h1 := hs.head hz
        rcases List.mem_cons.1 ((h z).1 (by simp [hz])) with rfl | h2
        · omega
        · exact h2
      · intro hz
        have h1 := ht.head hz
        rcases List.mem_cons.1 ((h z).2 (by simp [hz])) with rfl | h2
        · omega
        · exact h2

theorem Asc.get {s : List Int} (h : Asc s) {i j : Nat} {x y : Int} (hi : s[i]? = some x) (hj : s[j]? = some y) (hij : i < j) : x < y := by
  obtain ⟨h1, rfl⟩ := List.getElem?_eq_some_iff.1 hi
  obtain ⟨h2, rfl⟩ := List.getElem?_eq_some_iff.1 hj
  exact List.pairwise_iff_getElem.1 h i j h1 h2 hij
theorem Asc.of_get {s : List Int} (h : ∀ (i j : Nat) (x y : Int), s[i]? = some x → s[j]? = some y → i < j → x < y) : Asc s :=
  List.pairwise_iff_getElem.2 fun i j hi hj hij => h i j _ _ (List.getElem?_eq_getElem hi) (List.getElem?_eq_getElem hj) hij
theorem Asc.inj {s : List Int} (h : Asc s) {i j : Nat} {x : Int} (hi : s[i]? = some x) (hj : s[j]? = some x) : i = j := by
  rcases Nat.lt_trichotomy i j with h1 | h1 | h1
  · have := h.get hi hj h1; omega
  · exact h1
  · have := h.get hj hi h1; omega

/-- Put in at a place before which all is less and from which on all is greater. -/
theorem Asc.put {s : List Int} (h : Asc s) {y : Int} {k : Nat} (h1 : k = 0 ∨ ∃ x, s[k - 1]? = some x ∧ x < y) (h2 : ∀ x ∈ s.drop k, y < x) : Asc (s.take k ++ [y] ++ s.drop k) := by
  have hlt : ∀ x ∈ s.take k, x < y := by
    intro x hx
    obtain ⟨i, hi⟩ := List.mem_iff_getElem?.1 hx
    have hik : i < k ∧ i < s.length := by have := (List.getElem?_eq_some_iff.1 hi).1; rw [List.length_take] at this; omega
    rw [List.getElem?_take_of_lt hik.1] at hi
    rcases h1 with h1 | ⟨z, hz, hzy⟩
    · omega
    · by_cases he : i = k - 1
      · subst he; rw [hi] at hz; cases hz; exact hzy
      · have := h.get hi hz (by omega); omega
  have ha : Asc (s.take k) := List.Pairwise.sublist (List.take_sublist k s) h
  have hb : Asc (s.drop k) := List.Pairwise.sublist (List.drop_sublist k s) h
  have hab : ∀ x ∈ s.take k, ∀ z ∈ s.drop k, x < z := fun x hx z hz => Int.lt_trans (hlt x hx) (h2 z hz)
  unfold Asc at *
  rw [List.append_assoc]
  refine List.pairwise_append.2 ⟨ha, List.pairwise_append.2 ⟨by simp, hb, fun a hm b hbm => ?_⟩, fun a hm b hbm => ?_⟩
  · rw [List.mem_singleton.1 hm]; exact h2 b hbm
  · rcases List.mem_append.1 hbm with h3 | h3
    · rw [List.mem_singleton.1 h3]; exact hlt a hm
    · exact hab a hm b h3

theorem mem_put {s : List Int} {y z : Int} {k : Nat} : z ∈ s.take k ++ [y] ++ s.drop k ↔ z = y ∨ z ∈ s := by
  have : z ∈ s ↔ z ∈ s.take k ∨ z ∈ s.drop k := by
    conv => lhs; rw [← List.take_append_drop k s]
    exact List.mem_append
  rw [this]
  simp only [List.mem_append, List.mem_singleton]
  constructor
  · rintro ((h | h) | h)
    · exact .inr (.inl h)
    · exact .inl h
    · exact .inr (.inr h)
  · rintro (h | h | h)
    · exact .inl (.inr h)
    · exact .inl (.inl h)
    · exact .inr h

/-- The list that stands for l: ascending, the members of l that are not 0. -/
def AscOf (l s : List Int) : Prop := Asc s ∧ ∀ x, x ∈ s ↔ x ∈ l ∧ x ≠ 0
theorem AscOf.ext {l s t : List Int} (hs : AscOf l s) (ht : AscOf l t) : s = t := hs.1.ext ht.1 fun x => (hs.2 x).trans (ht.2 x).symm

theorem compactP_mem (l : List Int) (x : Int) : x ∈ compactP l ↔ x ∈ l := by
  induction l with
  | nil => simp [compactP]
  | cons y l ih =>
    unfold compactP
    cases l with
    | nil => simp [compactP]
    | cons z l =>
      by_cases h : y = z
      · subst h
        simp only [List.head?_cons, if_true]
        rw [ih]
        simp
      · simp only [List.head?_cons, Option.some.injEq, Ne.symm h, if_false, List.mem_cons] at ih ⊢
        rw [ih]

theorem compactP_head (l : List Int) : (compactP l).head? = l.head? := by
  induction l with
  | nil => rfl
  | cons y l ih =>
    unfold compactP
    split
    · rename_i h
      rw [ih, h]; rfl
    · rfl

theorem compactP_asc (l : List Int) (h : l.Pairwise (· ≤ ·)) : Asc (compactP l) := by
  induction l with
  | nil => exact Asc.nil
  | cons y l ih =>
    have h1 := (List.pairwise_cons.1 h).1
    have h2 := ih (List.pairwise_cons.1 h).2
    unfold compactP
    split
    · exact h2
    · rename_i hne
      refine List.pairwise_cons.2 ⟨fun z hz => ?_, h2⟩
      have hzl := (compactP_mem l z).1 hz
      have hle := h1 z hzl
      rcases Int.lt_or_le y z with hlt | hge
      · exact hlt
      · exfalso
        obtain rfl : z = y := by omega
        cases l with
        | nil => simp at hzl
        | cons u l =>
          have hu := h1 u (by simp)
          have hul : u ≤ z := by
            rcases List.mem_cons.1 hzl with h3 | h3
            · omega
            · exact (List.pairwise_cons.1 (List.pairwise_cons.1 h).2).1 z h3
          exact hne (by simp; omega)

theorem idxOf_asc (l : List Int) (h0 : ∀ x ∈ l, 0 ≤ x) : AscOf l (idxOf l) := by
  have hs : (l.mergeSort fun x y => decide (x ≤ y)).Pairwise (· ≤ ·) := by
    have := List.pairwise_mergeSort (le := fun x y : Int => decide (x ≤ y)) (by intro a b c h1 h2; simp at *; omega) (by intro a b; simp; omega) l
    exact this.imp fun h => by simpa using h
  have ha := compactP_asc _ hs
  have hm : ∀ x, x ∈ compactP (l.mergeSort fun x y => decide (x ≤ y)) ↔ x ∈ l := fun x => (compactP_mem _ x).trans List.mem_mergeSort
  unfold idxOf
  cases hc : compactP (l.mergeSort fun x y => decide (x ≤ y)) with
  | nil =>
    rw [hc] at hm
    refine ⟨Asc.nil, fun x => ?_⟩
    have := hm x
    simp at this ⊢
    intro h
    exact absurd h this
  | cons y t =>
    rw [hc] at hm ha
    simp only
    split
    · rename_i hy
      subst hy
      refine ⟨ha.tail, fun x => ?_⟩
      rw [← hm x]
      constructor
      · intro hx
        have := ha.head hx
        exact ⟨by simp [hx], by omega⟩
      · rintro ⟨h1, h2⟩
        rcases List.mem_cons.1 h1 with h1 | h1
        · exact absurd h1 h2
        · exact h1
    · rename_i hy
      refine ⟨ha, fun x => ?_⟩
      rw [hm x]
      refine ⟨fun h => ⟨h, ?_⟩, fun h => h.1⟩
      rintro rfl
      rcases List.mem_cons.1 ((hm 0).2 h) with h1 | h1
      · exact hy h1.symm
      · have := ha.head h1
        have := h0 y ((hm y).1 (by simp))
        omega

/-- In an ascending list the place that is found is the first of those that are not less. -/
theorem FindAt.mem {s : List Int} (h : Asc s) {u : Int} {k : Nat} (hk : FindAt s u k) : u ∈ s ↔ s[k]? = some u := by
  obtain ⟨h1, h2, h3⟩ := hk
  constructor
  · intro hm
    obtain ⟨i, hi⟩ := List.mem_iff_getElem?.1 hm
    have hil := (List.getElem?_eq_some_iff.1 hi).1
    rcases Nat.lt_trichotomy i k with hlt | rfl | hgt
    · rcases h2 with h2 | ⟨y, hy, hyu⟩
      · omega
      · by_cases he : i = k - 1
        · subst he; rw [hi] at hy; cases hy; omega
        · have := h.get hi hy (by omega); omega
    · exact hi
    · rcases h3 with h3 | ⟨y, hy, hyu⟩
      · omega
      · have := h.get hy hi hgt; omega
  · intro hs
    exact List.mem_iff_getElem?.2 ⟨k, hs⟩
theorem FindAt.below {s : List Int} (h : Asc s) {u : Int} {k : Nat} (hk : FindAt s u k) {i : Nat} {x : Int} (hi : s[i]? = some x) : i < k ↔ x < u := by
  obtain ⟨h1, h2, h3⟩ := hk
  have hil := (List.getElem?_eq_some_iff.1 hi).1
  constructor
  · intro hlt
    rcases h2 with h2 | ⟨y, hy, hyu⟩
    · omega
    · by_cases he : i = k - 1
      · subst he; rw [hi] at hy; cases hy; omega
      · have := h.get hi hy (by omega); omega
  · intro hx
    rcases Nat.lt_or_ge i k with h4 | h4
    · exact h4
    · exfalso
      rcases h3 with h3 | ⟨y, hy, hyu⟩
      · omega
      · rcases Nat.eq_or_lt_of_le h4 with rfl | h4
        · rw [hi] at hy; cases hy; omega
        · have := h.get hy hi h4; omega

/-- The place of u in an ascending list, counted from 1; 0 if it is not there. -/
def placeOf (s : List Int) (u : Int) : Int := if u ∈ s then (s.idxOf u : Int) + 1 else 0

theorem idxOf_at {s : List Int} {u : Int} {k : Nat} (hk : s[k]? = some u) (hn : u ∉ s.take k) : s.idxOf u = k := by
  have hkl := (List.getElem?_eq_some_iff.1 hk).1
  have h1 : s = s.take k ++ u :: s.drop (k + 1) := by
    have h2 : s.drop k = u :: s.drop (k + 1) := by
      rw [List.drop_eq_getElem_cons hkl, (List.getElem?_eq_some_iff.1 hk).2]
    rw [← h2, List.take_append_drop]
  rw [h1, List.idxOf_append, if_neg hn]
  simp
  omega

theorem placeOf_at {s : List Int} (h : Asc s) {u : Int} {k : Nat} (hk : s[k]? = some u) : placeOf s u = k + 1 := by
  have hm : u ∈ s := List.mem_iff_getElem?.2 ⟨k, hk⟩
  have hn : u ∉ s.take k := by
    intro hm
    obtain ⟨i, hi⟩ := List.mem_iff_getElem?.1 hm
    have hik : i < k := by have := (List.getElem?_eq_some_iff.1 hi).1; rw [List.length_take] at this; omega
    rw [List.getElem?_take_of_lt hik] at hi
    have := h.inj hi hk
    omega
  unfold placeOf
  rw [if_pos hm, idxOf_at hk hn]
theorem placeOf_none {s : List Int} {u : Int} (h : u ∉ s) : placeOf s u = 0 := if_neg h

theorem posAt_place {s : List Int} (h : Asc s) {u : Int} {k : Nat} (hk : FindAt s u k) : (if s[k]? = some u then (k : Int) + 1 else 0) = placeOf s u := by
  by_cases hm : u ∈ s
  · have h1 := (hk.mem h).1 hm
    rw [if_pos h1, placeOf_at h h1]
  · rw [if_neg (fun h1 => hm ((hk.mem h).2 h1)), placeOf_none hm]

end Go.Proofs.Ytmhhmenhfocfjaa
