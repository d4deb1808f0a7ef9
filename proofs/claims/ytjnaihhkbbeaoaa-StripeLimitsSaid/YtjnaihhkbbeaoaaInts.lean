/- Integers of a kind as elements of slices. Plain lemmas; of no program. -/
import Derived.Test.YtjnaihhkbbeaoaaRws
import Derived.Test.YtjnaihhkbbeaoaaRowOps
namespace Go.Proofs.Ytjnaihhkbbeaoaa
open Go.RowKit

def intE (q : IntKind) : Elem Int where
  enc x := [.int q x]
  sz := 1
  len _ := rfl
  one x u hu := by simp at hu; subst hu; rfl
  pos := by omega

section
variable {q : IntKind} {w w' : World} {v : Value} {l : List Int} {e : TypeId} {base : Nat}

/-- The cells of a slice that reads as integers. -/
theorem Rd.ints (h : Rd (intE q) w v l) : ∃ A c, v = .slice A l.length c ∧ l.length ≤ c ∧ (l ≠ [] → ∃ b off, A = some ⟨b, off, none⟩ ∧ ∀ i x, l[i]? = some x → w.cell? ⟨b, off + i, none⟩ = some (.int q x)) := by
  obtain ⟨A, c, rfl, hc, hcells⟩ := h
  refine ⟨A, c, rfl, hc, fun hl => ?_⟩
  obtain ⟨b, off, rfl, hcell⟩ := hcells hl
  refine ⟨b, off, rfl, fun i x hx => ?_⟩
  have := hcell i x hx 0 _ rfl
  simpa [intE] using this

theorem Own.some1 {A : Option Addr} {n c : Nat} (h : Own (intE q) e base w (.slice A n c) l) (hl : 0 < n) : ∃ g, A = some ⟨g, 0, none⟩ := by
  rcases h.2 with ⟨h1, _⟩ | ⟨g, _, _, h1, _⟩
  · injection h1 with _ h2; omega
  · injection h1 with h2; exact ⟨g, h2⟩

theorem intE_cells (l : List Int) : (intE q).cells l = l.map (Value.int q) := by
  unfold Elem.cells
  induction l with
  | nil => rfl
  | cons x l ih => rw [List.flatMap_cons, ih, List.map_cons]; rfl

theorem Own.icell {g n c : Nat} (h : Own (intE q) e base w (.slice (some ⟨g, 0, none⟩) n c) l) {k : Nat} {x : Int} (hx : l[k]? = some x) : w.cell? ⟨g, k, none⟩ = some (.int q x) := by
  have := World.ownsRow.cells h (g := g) rfl _ _ ((intE q).cells_at hx (j := 0) rfl)
  rw [Addr.add_lit, Nat.zero_add] at this
  simpa [intE] using this
theorem Own.ifrozen {g n c : Nat} (h : Own (intE q) e base w (.slice (some ⟨g, 0, none⟩) n c) l) (j : Nat) : w.frozen? ⟨g, j, none⟩ = false := by
  obtain ⟨A, c', he, _⟩ := Own.form h
  injection he with h1 h2 h3
  subst h2
  exact World.ownsRow.frozenAt h j
theorem Own.istored {g n c : Nat} (h : Own (intE q) e base w (.slice (some ⟨g, 0, none⟩) n c) l) (k : Nat) (y : Int) : Own (intE q) e base (w.setCell ⟨g, k, none⟩ (.int q y)) (.slice (some ⟨g, 0, none⟩) n c) (l.set k y) := by
  obtain ⟨A, c', he, _⟩ := Own.form h
  injection he with h1 h2 h3
  subst h2
  unfold Own at h ⊢
  have h2 := (h.stored k (.int q y)).1
  rw [List.length_set]
  rw [intE_cells] at h2 ⊢
  rw [List.map_set]
  exact h2
end

theorem Own.iempty (q : IntKind) (e : TypeId) (base : Nat) (w : World) (hb : base ≤ w.heap.size) : Own (intE q) e base (w.alloc (.cells #[] e)) (.slice (some ⟨w.heap.size, 0, none⟩) 0 0) [] := by
  unfold Own
  exact World.ownsRow_made w #[] 0 hb (Nat.zero_le _) (by simp)

theorem take_snocI {l : List Int} {k : Nat} {x : Int} (h : l[k]? = some x) : l.take (k + 1) = l.take k ++ [x] := by
  have hk : k < l.length := (List.getElem?_eq_some_iff.1 h).1
  rw [List.take_succ_eq_append_getElem hk, (List.getElem?_eq_some_iff.1 h).2]

end Go.Proofs.Ytjnaihhkbbeaoaa
