/- Squeezing, as a plain function on lists, and what it comes to step by step. No program. -/
import Derived.Test.YtjaapenojppnpaaEv
namespace Go.Proofs.Ytjaapenojppnpaa

/-- Is there a later change of the same message? -/
def later (e : Ev) (l : List Ev) : Bool := decide (e.k = 3) && l.any fun x => decide (x.k = 3) && decide (x.u = e.u)

def squeeze : List Ev → List Ev
  | [] => []
  | e :: l => if later e l then squeeze l else e :: squeeze l

theorem drop_cons {α : Type} {l : List α} {k : Nat} {x : α} (h : l[k]? = some x) : l.drop k = x :: l.drop (k + 1) := by
  obtain ⟨hk, rfl⟩ := List.getElem?_eq_some_iff.1 h
  exact List.drop_eq_getElem_cons hk

theorem squeeze_drop {l : List Ev} {k : Nat} {x : Ev} (h : l[k]? = some x) : squeeze (l.drop k) = if later x (l.drop (k + 1)) then squeeze (l.drop (k + 1)) else x :: squeeze (l.drop (k + 1)) := by
  rw [drop_cons h, squeeze]

theorem later_iff {l : List Ev} {k : Nat} {x : Ev} : later x (l.drop k) = true ↔ x.k = 3 ∧ ∃ i y, k ≤ i ∧ l[i]? = some y ∧ y.k = 3 ∧ y.u = x.u := by
  unfold later
  simp only [Bool.and_eq_true, decide_eq_true_eq, List.any_eq_true]
  constructor
  · rintro ⟨h1, y, hy, h2, h3⟩
    obtain ⟨i, hi⟩ := List.mem_iff_getElem?.1 hy
    rw [List.getElem?_drop] at hi
    exact ⟨h1, k + i, y, by omega, hi, h2, h3⟩
  · rintro ⟨h1, i, y, hi, hy, h2, h3⟩
    refine ⟨h1, y, List.mem_iff_getElem?.2 ⟨i - k, ?_⟩, h2, h3⟩
    rw [List.getElem?_drop, show k + (i - k) = i by omega]
    exact hy

theorem squeeze_length (l : List Ev) : (squeeze l).length ≤ l.length := by
  induction l with
  | nil => simp [squeeze]
  | cons e l ih =>
    rw [squeeze]
    split
    · simp; omega
    · simp; exact ih

theorem squeeze_mem {l : List Ev} {x : Ev} (h : x ∈ squeeze l) : x ∈ l := by
  induction l with
  | nil => simp [squeeze] at h
  | cons e l ih =>
    rw [squeeze] at h
    split at h
    · exact List.mem_cons_of_mem _ (ih h)
    · rcases List.mem_cons.1 h with rfl | h
      · simp
      · exact List.mem_cons_of_mem _ (ih h)

end Go.Proofs.Ytjaapenojppnpaa
