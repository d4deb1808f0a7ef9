/- The steps of the plain sorting functions, and a row as an array. Plain lemmas; of no program. -/
import Derived.Test.YtjnaihhkbbeaoaaInts
import Derived.Sort.Defs
import Derived.Deep.Draws
namespace Go.Proofs.Ytjnaihhkbbeaoaa
open Go.RowKit Go.Sort

/-- The slice with head at block g is a row of the call's own that holds the array. -/
def SRow (te : TypeId) (base : Nat) (w : World) (g c : Nat) (d : Array Int) : Prop := Own (intE .u32) te base w (.slice (some ⟨g, 0, none⟩) d.size c) d.toList

section
variable {te : TypeId} {base g c : Nat} {w w' : World} {d : Array Int}
theorem SRow.cell (h : SRow te base w g c d) {t : Nat} (ht : t < d.size) : w.cell? ⟨g, t, none⟩ = some (.int .u32 d[t]!) := by
  refine Own.icell h ?_
  rw [Array.getElem?_toList, Array.getElem?_eq_getElem ht, getElem!_pos d t ht]
theorem SRow.frozen (h : SRow te base w g c d) (t : Nat) : w.frozen? ⟨g, t, none⟩ = false := Own.ifrozen h t
theorem SRow.fr {S : Nat → Prop} (h : SRow te base w g c d) (hf : Fr S w w') (hS : ¬ S g) : SRow te base w' g c d := Own.fr h hf fun b hb => by cases hb; exact hS
theorem SRow.drewN (h : SRow te base w g c d) (n : Nat) : SRow te base (w.drewN n) g c d := h
theorem SRow.new (h : SRow te base w g c d) (hf : New w w') : SRow te base w' g c d := h.fr hf id
theorem SRow.base_le (h : SRow te base w g c d) : base ≤ g := (Own.block h rfl).1
theorem SRow.lt (h : SRow te base w g c d) : g < w.heap.size := (Own.block h rfl).2
theorem SRow.swap (h : SRow te base w g c d) (i j : Nat) :
    SRow te base ((w.setCell ⟨g, i, none⟩ (.int .u32 d[j]!)).setCell ⟨g, j, none⟩ (.int .u32 d[i]!)) g c (swp d i j) := by
  have h1 := (Own.istored (Own.istored h i d[j]!) j d[i]!)
  unfold SRow swp
  have : ((d.setIfInBounds i d[j]!).setIfInBounds j d[i]!).toList = (d.toList.set i d[j]!).set j d[i]! := by simp
  rw [this]
  simpa using h1
end
theorem SRow.one {te : TypeId} {base g c : Nat} {w : World} {d : Array Int} (h : SRow te base w g c d) (i : Nat) (v : Int) : SRow te base (w.setCell ⟨g, i, none⟩ (.int .u32 v)) g c (d.setIfInBounds i v) := by
  have h1 := Own.istored h i v
  unfold SRow
  rw [Array.toList_setIfInBounds, Array.size_setIfInBounds]
  exact h1
/-- A swap from a world that has not yet drawn. -/
theorem SRow.two0 {te : TypeId} {base g c : Nat} {w : World} {d : Array Int} (h : SRow te base w g c d) (i j : Nat) : SRow te base ((w.setCell ⟨g, i, none⟩ (.int .u32 d[j]!)).setCell ⟨g, j, none⟩ (.int .u32 d[i]!)).drew g c (swp d i j) := h.swap i j
theorem One.two0 {g : Nat} {a w : World} (h : One g a w) (i j : Nat) (u v : Value) : One g a ((w.setCell ⟨g, i, none⟩ u).setCell ⟨g, j, none⟩ v).drew := Fr.drew (One.set (One.set h i u) j v)
/-- What a second store to the row needs. -/
theorem SRow.again {te : TypeId} {base g c : Nat} {w : World} {d : Array Int} (h : SRow te base w g c d) (i j : Nat) (v : Int) (hj : j < d.size) : ∃ z, (w.setCell ⟨g, i, none⟩ (.int .u32 v)).cell? ⟨g, j, none⟩ = some z :=
  ⟨_, (h.one i v).cell (by rw [Array.size_setIfInBounds]; exact hj)⟩
theorem One.two {g : Nat} {a w : World} (h : One g a w) (n i j : Nat) (u v : Value) : One g a (((w.drewN n).setCell ⟨g, i, none⟩ u).setCell ⟨g, j, none⟩ v) := One.set (One.set (Fr.drewN h n) i u) j v
theorem SRow.two {te : TypeId} {base g c : Nat} {w : World} {d : Array Int} (h : SRow te base w g c d) (n i j : Nat) : SRow te base (((w.drewN n).setCell ⟨g, i, none⟩ (.int .u32 d[j]!)).setCell ⟨g, j, none⟩ (.int .u32 d[i]!)) g c (swp d i j) := by
  have h1 := (h.drewN n).swap i j
  exact h1
theorem swp_size (d : Array Int) (i j : Nat) : (swp d i j).size = d.size := by simp [swp]

section
variable {lt : Int → Int → Bool}
theorem insInner_go' (a j : Nat) (d : Array Int) (hj : a < j) (hl : lt d[j]! d[j - 1]! = true) : insInner lt a j d = insInner lt a (j - 1) (swp d j (j - 1)) := by
  obtain ⟨k, rfl⟩ : ∃ k, j = k + 1 := ⟨j - 1, by omega⟩
  conv => lhs; unfold insInner
  simp only [Nat.add_sub_cancel] at hl ⊢
  rw [hl, decide_eq_true (by omega : k + 1 > a)]
  rfl
theorem insInner_stop' (a j : Nat) (d : Array Int) (h : j ≤ a ∨ lt d[j]! d[j - 1]! = false) : insInner lt a j d = d := by
  cases j with
  | zero => rfl
  | succ k =>
    unfold insInner
    simp only [Nat.add_sub_cancel] at h
    rcases h with h | h
    · rw [decide_eq_false (by omega)]; rfl
    · rw [h, Bool.and_false]; rfl
theorem insOuter_go' (a b i : Nat) (d : Array Int) (h : i < b) : insOuter lt a b i d = insOuter lt a b (i + 1) (insInner lt a i d) := by rw [insOuter, if_pos h]
theorem insOuter_stop' (a b i : Nat) (d : Array Int) (h : ¬ i < b) : insOuter lt a b i d = d := by rw [insOuter, if_neg h]
end

end Go.Proofs.Ytjnaihhkbbeaoaa
