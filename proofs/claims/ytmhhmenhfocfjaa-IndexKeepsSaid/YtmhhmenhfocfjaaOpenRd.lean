/- How an argument that is a slice of integers is opened, as a reading. Plain lemmas; of no program. -/
import Derived.Test.YtmhhmenhfocfjaaOpenSt
import Derived.Test.YtmhhmenhfocfjaaInts
namespace Go.Proofs.Ytmhhmenhfocfjaa
open Go.ChangeShapes Go.WideShapes Go.ChangeAt Go.RowKit Go.Deep

/-- An argument that is a slice of integers, as a reading. -/
theorem open_ints_rd {H : Type} {enc : TypeId × Value → H} {P : Program} {W : World} {base : Nat} {t e : TypeId} {k : IntKind} {v : Value} {d : DataW H} {p : List MemPlace}
    (ht : P.underlying t = some (.slice e)) (he : P.underlying e = some (.int k)) (hC : P.cellsOf e = 1) (hv : Value.okWide P W .any base t v) (h : DataW.Trod enc P W 0 (fun _ => true) true t v d p) :
    ∃ x : Value × List Int, v = x.1 ∧ (Rd (intE k) W x.1 x.2 ∧ (∀ y ∈ x.2, (Lit.int k y).wf = true) ∧ x.2.length ≤ maxLen) := by
  obtain ⟨a0, len0, cap0, rfl⟩ := okWide_slice ht hv
  obtain ⟨fuel, hf⟩ := h
  rcases open_ints ht he hC hf with ⟨hcs, _⟩ | ⟨x, l, c, zs, hcs, _, hl, hm, hz, _, hcell, hwz⟩
  · simp [Value.cells] at hcs
    obtain ⟨rfl, rfl, rfl⟩ := hcs
    exact ⟨(_, []), rfl, Rd.nil _ _, by simp, by simp⟩
  · simp [Value.cells] at hcs
    obtain ⟨rfl, rfl, rfl⟩ := hcs
    have hz' : zs.length = cap0 := by simpa using hz
    have hl0 : (zs.take len0).length = len0 := by rw [List.length_take]; omega
    refine ⟨(_, zs.take len0), rfl, ⟨some x, cap0, by rw [hl0], by rw [hl0]; exact hl, fun hne => ?_⟩, fun y hy => hwz y (List.mem_of_mem_take hy), by show (zs.take len0).length ≤ maxLen; omega⟩
    have hn' : 0 < len0 := by
      rcases Nat.eq_zero_or_pos len0 with h0 | h0
      · subst h0; simp at hne
      · exact h0
    obtain ⟨b, off, sp⟩ := x
    have h0 := hcell 0 (by omega)
    obtain rfl := spot_none0 h0
    refine ⟨b, off, rfl, fun i y hy j u hu => ?_⟩
    have hi : i < len0 := by
      have h2 : i < (zs.take len0).length := (List.getElem?_eq_some_iff.1 hy).1
      omega
    have hc := hcell i (by omega)
    rw [Addr.add_lit] at hc
    rw [List.getElem?_take, if_pos hi] at hy
    have hj : j = 0 := by
      have := (List.getElem?_eq_some_iff.1 hu).1
      simp [intE] at this
      exact this
    subst hj
    simp [intE] at hu
    subst hu
    show W.cell? ⟨b, off + (i * 1 + 0), none⟩ = _
    rw [Nat.mul_one, Nat.add_zero, hc]
    simp [List.getD, hy]

end Go.Proofs.Ytmhhmenhfocfjaa
