/- Strictly ascending lists of integers: the one with given members, insertion. Plain lemmas; of no program. -/
import Derived.Test.YtjnaihhkbbeaoaaMore
namespace Go.Proofs.Ytjnaihhkbbeaoaa
open Go.RowKit

/-- Strictly ascending. -/
def Asc (s : List Int) : Prop := s.Pairwise (· < ·)

theorem Asc.nil : Asc [] := List.Pairwise.nil
theorem Asc.tail {x : Int} {s : List Int} (h : Asc (x :: s)) : Asc s := (List.pairwise_cons.1 h).2
theorem Asc.head {x : Int} {s : List Int} (h : Asc (x :: s)) {y : Int} (hy : y ∈ s) : x < y := (List.pairwise_cons.1 h).1 y hy

theorem Asc.ext {s t : List Int} (hs : Asc s) (ht : Asc t) (h : ∀ x, x ∈ s ↔ x ∈ t) : s = t := by
  induction s generalizing t with
  | nil =>
    cases t with
    | nil => rfl
    | cons y t => exact absurd ((h y).2 (by simp)) (by simp)
  | cons x s ih =>
    cases t with
    | nil => exact absurd ((h x).1 (by simp)) (by simp)
    | cons y t =>
      have hxy : x = y := by
        have h1 := (h x).1 (by simp)
        have h2 := (h y).2 (by simp)
        rcases List.mem_cons.1 h1 with h1 | h1
        · exact h1
        · rcases List.mem_cons.1 h2 with h2 | h2
          · exact h2.symm
          · have := hs.head h2; have := ht.head h1; omega
      subst hxy
      refine congrArg _ (ih hs.tail ht.tail fun z => ?_)
      constructor
      · intro hz
        have h1 := hs.head hz
        rcases List.mem_cons.1 ((h z).1 (by simp [hz])) with rfl | h2
        · omega
        · exact h2
      · intro hz
        have h1 := ht.head hz
        rcases List.mem_cons.1 ((h z).2 (by simp [hz])) with rfl | h2
        · omega
        · exact h2

theorem Asc.get {s : List Int} (h : Asc s) {i j : Nat} {x y : Int} (hi : s[i]? = some x) (hj : s[j]? = some y) (hij : i < j) : x < y := by
  obtain ⟨h1, rfl⟩ := List.getElem?_eq_some_iff.1 hi
  obtain ⟨h2, rfl⟩ := List.getElem?_eq_some_iff.1 hj
  exact List.pairwise_iff_getElem.1 h i j h1 h2 hij
theorem Asc.of_get {s : List Int} (h : ∀ (i j : Nat) (x y : Int), s[i]? = some x → s[j]? = some y → i < j → x < y) : Asc s :=
  List.pairwise_iff_getElem.2 fun i j hi hj hij => h i j _ _ (List.getElem?_eq_getElem hi) (List.getElem?_eq_getElem hj) hij
theorem Asc.inj {s : List Int} (h : Asc s) {i j : Nat} {x : Int} (hi : s[i]? = some x) (hj : s[j]? = some x) : i = j := by
  rcases Nat.lt_trichotomy i j with h1 | h1 | h1
  · have := h.get hi hj h1; omega
  · exact h1
  · have := h.get hj hi h1; omega

/-- Put in at a place before which all is less and from which on all is greater. -/
theorem Asc.put {s : List Int} (h : Asc s) {y : Int} {k : Nat} (h1 : k = 0 ∨ ∃ x, s[k - 1]? = some x ∧ x < y) (h2 : ∀ x ∈ s.drop k, y < x) : Asc (s.take k ++ [y] ++ s.drop k) := by
  have hlt : ∀ x ∈ s.take k, x < y := by
    intro x hx
    obtain ⟨i, hi⟩ := List.mem_iff_getElem?.1 hx
    have hik : i < k ∧ i < s.length := by have := (List.getElem?_eq_some_iff.1 hi).1; rw [List.length_take] at this; omega
    rw [List.getElem?_take_of_lt hik.1] at hi
    rcases h1 with h1 | ⟨z, hz, hzy⟩
    · omega
    · by_cases he : i = k - 1
      · subst he; rw [hi] at hz; cases hz; exact hzy
      · have := h.get hi hz (by omega); omega
  have ha : Asc (s.take k) := List.Pairwise.sublist (List.take_sublist k s) h
  have hb : Asc (s.drop k) := List.Pairwise.sublist (List.drop_sublist k s) h
  have hab : ∀ x ∈ s.take k, ∀ z ∈ s.drop k, x < z := fun x hx z hz => Int.lt_trans (hlt x hx) (h2 z hz)
  unfold Asc at *
  rw [List.append_assoc]
  refine List.pairwise_append.2 ⟨ha, List.pairwise_append.2 ⟨by simp, hb, fun a hm b hbm => ?_⟩, fun a hm b hbm => ?_⟩
  · rw [List.mem_singleton.1 hm]; exact h2 b hbm
  · rcases List.mem_append.1 hbm with h3 | h3
    · rw [List.mem_singleton.1 h3]; exact hlt a hm
    · exact hab a hm b h3

theorem mem_put {s : List Int} {y z : Int} {k : Nat} : z ∈ s.take k ++ [y] ++ s.drop k ↔ z = y ∨ z ∈ s := by
  have : z ∈ s ↔ z ∈ s.take k ∨ z ∈ s.drop k := by
    conv => lhs; rw [← List.take_append_drop k s]
    exact List.mem_append
  rw [this]
  simp only [List.mem_append, List.mem_singleton]
  constructor
  · rintro ((h | h) | h)
    · exact .inr (.inl h)
    · exact .inl h
    · exact .inr (.inr h)
  · rintro (h | h | h)
    · exact .inl (.inr h)
    · exact .inl (.inl h)
    · exact .inr h

/-- The list that stands for l: ascending, the members of l that are not 0. -/
def AscOf (l s : List Int) : Prop := Asc s ∧ ∀ x, x ∈ s ↔ x ∈ l ∧ x ≠ 0
theorem AscOf.ext {l s t : List Int} (hs : AscOf l s) (ht : AscOf l t) : s = t := hs.1.ext ht.1 fun x => (hs.2 x).trans (ht.2 x).symm

end Go.Proofs.Ytjnaihhkbbeaoaa
