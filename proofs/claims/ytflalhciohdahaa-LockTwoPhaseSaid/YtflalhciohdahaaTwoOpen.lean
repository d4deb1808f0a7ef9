/- How an argument that is a slice of slices of bytes is opened. -/
import Derived.Test.YtflalhciohdahaaTwoStep
import Derived.Test.YtflalhciohdahaaOpenLk
import Derived.Deep.Matrix
namespace Go.Proofs.Ytflalhciohdahaa
open Go.ChangeShapes Go.WideShapes Go.ChangeAt Go.RowKit Go.Deep

/-- The slice reads as bytes. -/
def Sli.bytes (w : World) (x : Sli) : Prop := Rd (intE .u8) w x.v x.l ∧ (∀ y ∈ x.l, (Lit.int .u8 y).wf = true) ∧ x.l.length ≤ maxLen

theorem open_byte_rows {H : Type} {enc : TypeId × Value → H} {W : World} {base : Nat} {v : Value} {d : DataW H} {p : List MemPlace}
    (hv : Value.okWide Try.prog W .any base 53 v) (h : DataW.Trod enc Try.prog W 0 (fun _ => true) true 53 v d p) :
    ∃ x : Value × List Sli, v = x.1 ∧ (Rd slE W x.1 x.2 ∧ (∀ y ∈ x.2, y.bytes W) ∧ x.2.length ≤ maxLen) := by
  obtain ⟨a0, len0, cap0, rfl⟩ := okWide_slice Try.underlying53 hv
  obtain ⟨fuel, hf⟩ := h
  rcases open_int_rows Try.underlying53 Try.underlying54 Try.underlying5 (by kernel_rfl) (by kernel_rfl) hf with ⟨hcs, _⟩ | ⟨a, len, cap, A, L, C, Z, hcs, _, hl, hm, _, hr⟩
  · simp [Value.cells] at hcs
    obtain ⟨rfl, rfl, rfl⟩ := hcs
    exact ⟨(_, []), rfl, Rd.nil _ _, by simp, by simp⟩
  · simp [Value.cells] at hcs
    obtain ⟨rfl, rfl, rfl⟩ := hcs
    obtain ⟨b, off, s⟩ := a
    let g : Nat → Sli := fun r => ⟨A r, C r, (Z r).take (L r)⟩
    have hgl : ∀ r, r < cap0 → (g r).l.length = L r := fun r hrc => by
      obtain ⟨_, h2, _, h4, _⟩ := hr r hrc
      show ((Z r).take (L r)).length = L r
      rw [List.length_take]; omega
    have hln : ((List.range len0).map g).length = len0 := by simp
    refine ⟨(_, (List.range len0).map g), rfl, ⟨some ⟨b, off, s⟩, cap0, by rw [hln], by rw [hln]; exact hl, fun hne => ?_⟩, fun y hy => ?_, by show ((List.range len0).map g).length ≤ maxLen; omega⟩
    · have hlen : 0 < len0 := by
        rcases Nat.eq_zero_or_pos len0 with h0 | h0
        · subst h0; simp at hne
        · exact h0
      obtain rfl := spot_none0 (hr 0 (by omega)).1
      refine ⟨b, off, rfl, fun i x hx j u hu => ?_⟩
      have hil : i < len0 := by
        have := (List.getElem?_eq_some_iff.1 hx).1
        rwa [hln] at this
      rw [List.getElem?_map, List.getElem?_range hil] at hx
      simp only [Option.map_some, Option.some.injEq] at hx
      subst hx
      have h0 := (hr i (by omega)).1
      rw [Addr.add_lit] at h0
      have hj : j = 0 := by
        have := (List.getElem?_eq_some_iff.1 hu).1
        simp [slE] at this
        exact this
      subst hj
      simp [slE] at hu
      subst hu
      show W.cell? ⟨b, off + (i * 1 + 0), none⟩ = some (.slice (A i) (g i).l.length (C i))
      rw [Nat.mul_one, Nat.add_zero, h0, hgl i (by omega)]
    · obtain ⟨r, hr2, rfl⟩ := List.mem_map.1 hy
      have hrl := List.mem_range.1 hr2
      obtain ⟨h0, h1, h2, h3, h4, h5, h6⟩ := hr r (by omega)
      have hgr := hgl r (by omega)
      refine ⟨⟨A r, C r, by show Value.slice (A r) (g r).l.length (C r) = _; rfl, by rw [hgr]; exact h1, fun hne => ?_⟩, fun y hy => h4 y (List.mem_of_mem_take hy), by rw [hgr]; omega⟩
      have hL0 : 0 < L r := by
        rcases Nat.eq_zero_or_pos (L r) with h7 | h7
        · exact absurd (List.eq_nil_of_length_eq_zero (by rw [hgr]; exact h7)) hne
        · exact h7
      cases hA : A r with
      | none => have := h5 hA; omega
      | some a' =>
        obtain ⟨_, h8⟩ := h6 a' hA
        obtain ⟨b', off', s'⟩ := a'
        obtain rfl := spot_none0 (h8 0 (by omega))
        refine ⟨b', off', rfl, fun i x hx j u hu => ?_⟩
        have hil : i < L r := by
          have := (List.getElem?_eq_some_iff.1 hx).1
          rwa [hgr] at this
        have h9 := h8 i (by omega)
        rw [Addr.add_lit] at h9
        have hj : j = 0 := by
          have := (List.getElem?_eq_some_iff.1 hu).1
          simp [intE] at this
          exact this
        subst hj
        simp [intE] at hu
        subst hu
        have hx' : ((Z r).take (L r))[i]? = some x := hx
        rw [List.getElem?_take, if_pos hil] at hx'
        show W.cell? ⟨b', off' + (i * 1 + 0), none⟩ = _
        rw [Nat.mul_one, Nat.add_zero, h9]
        simp [List.getD, hx']

end Go.Proofs.Ytflalhciohdahaa
