/- Adjacent doubles struck from a list. Plain lemmas; of no program. -/
import Derived.Test.YtmhhmenhfocfjaaWords
namespace Go.Proofs.Ytmhhmenhfocfjaa

def compactP : List Int → List Int
  | [] => []
  | x :: l => if l.head? = some x then compactP l else x :: compactP l

theorem compactP_snoc (l : List Int) (x y : Int) : compactP (l ++ [x, y]) = if x = y then compactP (l ++ [x]) else compactP (l ++ [x]) ++ [y] := by
  induction l with
  | nil =>
    by_cases h : x = y
    · subst h
      simp [compactP]
    · have h' : ¬ y = x := fun e => h e.symm
      simp [compactP, h, h']
  | cons a l ih =>
    have hh : (l ++ [x, y]).head? = (l ++ [x]).head? := by cases l <;> rfl
    simp only [List.cons_append, compactP]
    rw [hh, ih]
    by_cases h1 : (l ++ [x]).head? = some a
    · simp only [h1, if_true]
    · simp only [h1, if_false]
      by_cases h2 : x = y
      · simp only [h2, if_true]
      · simp only [h2, if_false, List.cons_append]
theorem compactP_take {l : List Int} {p : Nat} {x y : Int} (hp : l[p]? = some x) (hy : l[p + 1]? = some y) : compactP (l.take (p + 2)) = if x = y then compactP (l.take (p + 1)) else compactP (l.take (p + 1)) ++ [y] := by
  have h1 : l.take (p + 1) = l.take p ++ [x] := by
    have hk := (List.getElem?_eq_some_iff.1 hp)
    rw [List.take_succ_eq_append_getElem hk.1, hk.2]
  have h2 : l.take (p + 2) = l.take p ++ [x, y] := by
    have hk := (List.getElem?_eq_some_iff.1 hy)
    rw [List.take_succ_eq_append_getElem hk.1, hk.2, h1]
    simp
  rw [h2, h1, compactP_snoc]
theorem compactP_length (l : List Int) : (compactP l).length ≤ l.length := by
  induction l with
  | nil => exact Nat.le_refl _
  | cons x l ih =>
    unfold compactP
    split
    · rw [List.length_cons]; omega
    · rw [List.length_cons, List.length_cons]; omega
theorem mem_compactP (l : List Int) (x : Int) : x ∈ compactP l ↔ x ∈ l := by
  induction l with
  | nil => exact Iff.rfl
  | cons y l ih =>
    unfold compactP
    split
    · rename_i h
      rw [ih, List.mem_cons]
      constructor
      · exact .inr
      · rintro (h1 | h1)
        · subst h1
          exact List.mem_of_head? h
        · exact h1
    · rw [List.mem_cons, List.mem_cons, ih]
theorem compactP_sorted {l : List Int} (h : l.Pairwise (· ≤ ·)) : (compactP l).Pairwise (· < ·) := by
  induction l with
  | nil => exact List.Pairwise.nil
  | cons y l ih =>
    have h1 := List.pairwise_cons.1 h
    unfold compactP
    split
    · exact ih h1.2
    · rename_i hne
      refine List.pairwise_cons.2 ⟨fun z hz => ?_, ih h1.2⟩
      rw [mem_compactP] at hz
      cases l with
      | nil => cases hz
      | cons a l =>
        have hya := h1.1 a List.mem_cons_self
        have hne' : a ≠ y := fun e => hne (by rw [e]; rfl)
        rcases List.mem_cons.1 hz with rfl | hz
        · omega
        · have := (List.pairwise_cons.1 h1.2).1 z hz
          omega
/-- What is strictly ascending has no doubles to strike. -/
theorem compactP_id {l : List Int} (h : l.Pairwise (· < ·)) : compactP l = l := by
  induction l with
  | nil => rfl
  | cons y l ih =>
    have h1 := List.pairwise_cons.1 h
    unfold compactP
    rw [if_neg, ih h1.2]
    intro hh
    have := h1.1 y (List.mem_of_head? hh)
    omega

end Go.Proofs.Ytmhhmenhfocfjaa
