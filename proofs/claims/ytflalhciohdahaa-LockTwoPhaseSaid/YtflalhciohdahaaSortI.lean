/- slices.Sort at []int, in our words. -/
import Derived.Test.YtflalhciohdahaaLockShelf
import Derived.Test.YtflalhciohdahaaMore
namespace Go.Proofs.Ytflalhciohdahaa
open Go.RowKit Go.Sort

theorem isort_any {base : Nat} {w : World} {v : Value} {l : List Int} (hv : Own (intE .i64) 3 base w v l) (hl : l.length ≤ 1000000) :
    Calls Try.prog 27 #[v] w fun e w' => e = .returned (.tuple #[]) ∧ Own (intE .i64) 3 base w' v (l.mergeSort fun x y => decide (x ≤ y)) ∧ Fr (fun k => v.ownBlock = some k) w w' := by
  have hv' := hv
  rcases hv.2 with ⟨rfl, hz⟩ | ⟨g, cap, cur, rfl, hbase, hgb, r1, r2, r3, r4⟩
  · obtain rfl : l = [] := List.eq_nil_of_length_eq_zero hz
    refine (AnyM.slices_Sort_int_none sortA none 0 w).mono ?_
    rintro e w' ⟨rfl, rfl⟩
    exact ⟨rfl, by rw [List.mergeSort_nil]; exact hv', Fr.refl _ _⟩
  · rw [intE_cells] at r4
    have hH : Holds encZ w g 0 l.toArray := holds_of_block_i hgb (by simpa [intE] using r4)
    have hgl : g < w.heap.size := (Array.getElem?_eq_some_iff.1 hgb).1
    refine (AnyM.slices_Sort_int sortA g 0 cap l w hH hgl (by omega)).mono ?_
    rintro e w' ⟨rfl, nn, os, rfl⟩
    refine ⟨rfl, ?_, ?_⟩
    · unfold Own
      rw [intE_cells, List.length_mergeSort]
      exact ownsRow_sorted_i (by simp) hbase hgb r1 r2 r3
    · exact Fr.of_grown (grownBy_sorted_i _) fun i hi => hi

theorem isort_sorted (l : List Int) : (l.mergeSort fun x y => decide (x ≤ y)).Pairwise (· ≤ ·) :=
  (List.pairwise_mergeSort (le := fun x y : Int => decide (x ≤ y)) (fun a b c h1 h2 => by simp only [decide_eq_true_eq] at *; omega) (fun a b => by simp only [Bool.or_eq_true, decide_eq_true_eq]; omega) l).imp fun h => by simpa using h

end Go.Proofs.Ytflalhciohdahaa
