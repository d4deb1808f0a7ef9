/- A row of numbers at any offset of a block, told by its cells: what an index keeps. -/
import Derived.Test.YtmhhmenhfocfjaaInts
import Derived.Test.YtmhhmenhfocfjaaMore
namespace Go.Proofs.Ytmhhmenhfocfjaa
open Go.RowKit

/-- v is a slice of uint32 that reads as l, out of a block from base on that may be written; or it is nil and l is empty. -/
def URow (base : Nat) (w : World) (v : Value) (l : List Int) : Prop :=
  (v = .slice none 0 0 ∧ l = []) ∨ ∃ g off c, v = .slice (some ⟨g, off, none⟩) l.length c ∧ base ≤ g ∧ g < w.heap.size ∧ l.length ≤ c ∧ c ≤ maxLen ∧
    (∀ i x, l[i]? = some x → w.cell? ⟨g, off + i, none⟩ = some (.int .u32 x)) ∧ ∀ j, j < c → (∃ z, w.cell? ⟨g, off + j, none⟩ = some z) ∧ w.frozen? ⟨g, off + j, none⟩ = false

section
variable {base g c off n : Nat} {w w' : World} {v : Value} {l : List Int} {te : TypeId}
theorem URow.of_own (h : Own (intE .u32) te base w v l) : URow base w v l := by
  have hb := fun b hb => h.block (b := b) hb
  rcases h.2 with ⟨rfl, hn⟩ | ⟨g, cap, cur, rfl, hbase, hgb, hnc, hcm, hsz, _⟩
  · exact .inl ⟨rfl, List.eq_nil_of_length_eq_zero hn⟩
  · refine .inr ⟨g, 0, cap, rfl, hbase, (hb g rfl).2, hnc, hcm, fun i x hx => ?_, fun j hj => ⟨?_, ?_⟩⟩
    · rw [Nat.zero_add]; exact h.icell hx
    · rw [Nat.zero_add, cell_of_row w g j cur te (0, 0) hgb]
      exact ⟨_, Array.getElem?_eq_getElem (by have : (intE .u32).sz = 1 := rfl; rw [this] at hsz; omega)⟩
    · exact h.ifrozen _
theorem URow.rd (h : URow base w v l) : Rd (intE .u32) w v l := by
  rcases h with ⟨rfl, rfl⟩ | ⟨g, off, c, rfl, _, _, hc, _, hcells, _⟩
  · exact Rd.nil _ _
  · refine ⟨_, c, rfl, hc, fun _ => ⟨g, off, rfl, fun i x hx j u hu => by
    have h0 : (intE .u32).enc x = [.int .u32 x] := rfl
    rw [h0] at hu
    cases j with
    | succ j => simp at hu
    | zero =>
      obtain rfl : Value.int .u32 x = u := by simpa using hu
      have h1 : (intE .u32).sz = 1 := rfl
      simpa [h1] using hcells i x hx⟩⟩
theorem URow.keep (h : URow base w v l) (hs : w.heap.size ≤ w'.heap.size) (hk : ∀ b, v.ownBlock = some b → w'.heap[b]? = w.heap[b]?) : URow base w' v l := by
  rcases h with h | ⟨g, off, c, rfl, hb, hg, hc, hm, hcells, hj⟩
  · exact .inl h
  · have e := hk g rfl
    refine .inr ⟨g, off, c, rfl, hb, by omega, hc, hm, fun i x hx => (World.cell?_of_block e).trans (hcells i x hx), fun j hjc => ?_⟩
    obtain ⟨⟨z, hz⟩, hf⟩ := hj j hjc
    exact ⟨⟨z, (World.cell?_of_block e).trans hz⟩, (World.frozen?_of_block e).trans hf⟩
theorem URow.block (h : URow base w v l) {b : Nat} (hb : v.ownBlock = some b) : base ≤ b ∧ b < w.heap.size := by
  rcases h with ⟨rfl, _⟩ | ⟨g, off, c, rfl, h1, h2, _⟩
  · cases hb
  · cases hb; exact ⟨h1, h2⟩
theorem URow.fr {S : Nat → Prop} (h : URow base w v l) (hf : Fr S w w') (hS : ∀ b, v.ownBlock = some b → ¬ S b) : URow base w' v l :=
  h.keep hf.size fun b hb => hf.block b (h.block hb).2 (hS b hb)
theorem URow.new (h : URow base w v l) (hf : New w w') : URow base w' v l := h.fr hf fun _ _ => id
theorem URow.tail {x : Int} (h : URow base w (.slice (some ⟨g, off, none⟩) n c) (x :: l)) : URow base w (.slice (some ⟨g, off + 1, none⟩) (n - 1) (c - 1)) l := by
  rcases h with ⟨h, _⟩ | ⟨g', off', c', he, hb, hg, hc, hm, hcells, hj⟩
  · cases h
  · cases he
    simp only [List.length_cons] at hc ⊢
    refine .inr ⟨_, _, _, rfl, hb, hg, by omega, by omega, fun i y hy => ?_, fun j hjc => ?_⟩
    · rw [Nat.add_assoc, Nat.add_comm 1 i]; exact hcells (i + 1) y (by simpa using hy)
    · rw [Nat.add_assoc, Nat.add_comm 1 j]; exact hj (j + 1) (by omega)
theorem URow.form (h : URow base w v l) : ∃ A c, v = .slice A l.length c ∧ l.length ≤ c := by
  rcases h with ⟨rfl, rfl⟩ | ⟨g, off, c, rfl, _, _, hc, _⟩
  · exact ⟨none, 0, rfl, Nat.le_refl _⟩
  · exact ⟨_, c, rfl, hc⟩
end

end Go.Proofs.Ytmhhmenhfocfjaa
