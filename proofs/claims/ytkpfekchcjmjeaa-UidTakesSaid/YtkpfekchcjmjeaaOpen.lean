/- How an argument that is a slice of integers is opened: the slice's value, and that it reads as a list of integers of its kind. -/
import Derived.Test.YtkpfekchcjmjeaaRows
import Derived.Test.YtkpfekchcjmjeaaWords
import Derived.ProofKit
import Derived.OpenShut
namespace Go.Proofs.Ytkpfekchcjmjeaa
open Go.ChangeShapes Go.WideShapes Go.ChangeAt Go.RowKit

theorem spot_none {w : World} {b off : Nat} {s : Option Nat} {v : Value} (h : w.cell? ((⟨b, off, s⟩ : Addr).add 0) = some v) : s = none := by
  simpa [Addr.add] using World.cell?_spot h

/-- An argument that is a slice of integers of kind k. -/
theorem open_ints_sl {H : Type} {enc : TypeId × Value → H} {P : Program} {W : World} {base : Nat} {t e : TypeId} {k : IntKind} {v : Value} {d : DataW H} {p : List MemPlace}
    (ht : P.underlying t = some (.slice e)) (he : P.underlying e = some (.int k)) (hC : P.cellsOf e = 1) (hv : Value.okWide P W .any base t v) (h : DataW.Trod enc P W 0 (fun _ => true) true t v d p) :
    ∃ s : Sl Int, v = s.val ∧ (SlAt (Value.int k) W.heap.size W s ∧ ∀ x ∈ s.xs, (Lit.int k x).wf = true) := by
  obtain ⟨a0, len0, cap0, rfl⟩ := okWide_slice ht hv
  have k0 := h
  obtain ⟨fuel, hf⟩ := h
  rcases open_ints ht he hC hf with ⟨hcs, _⟩ | ⟨x, l, c, zs, hcs, _, hl, hm, hz, _, hcell, hwz⟩
  · simp [Value.cells] at hcs
    obtain ⟨rfl, rfl, rfl⟩ := hcs
    exact ⟨⟨none, 0, 0, []⟩, rfl, ⟨rfl, Nat.le_refl _, fun h => absurd h (by simp)⟩, by simp⟩
  · simp [Value.cells] at hcs
    obtain ⟨rfl, rfl, rfl⟩ := hcs
    have hz' : zs.length = cap0 := by simpa using hz
    refine ⟨⟨some x, len0, cap0, zs.take len0⟩, rfl, ⟨by simp [hz']; omega, hl, fun hn => ?_⟩, fun y hy => hwz y (List.mem_of_mem_take hy)⟩
    obtain ⟨b, off, sp⟩ := x
    have hn' : 0 < len0 := hn
    have h0 := hcell 0 (by omega)
    obtain rfl := spot_none h0
    refine ⟨b, off, rfl, World.block_lt_of_cell? W _ (by simpa [Addr.add] using h0), fun i y hy => ?_⟩
    have hi : i < len0 := by
      have := (List.getElem?_eq_some_iff.1 hy).1
      simp at this
      omega
    have hc := hcell i (by omega)
    rw [Addr.add_lit] at hc
    rw [hc]
    rw [List.getElem?_take, if_pos hi] at hy
    simp [List.getD, hy]

end Go.Proofs.Ytkpfekchcjmjeaa
