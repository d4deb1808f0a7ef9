/- How an argument that is a slice of calls (a kind and an identifier) is opened. -/
import Derived.Test.YtmhhmenhfocfjaaOpenRd
namespace Go.Proofs.Ytmhhmenhfocfjaa
open Go.ChangeShapes Go.WideShapes Go.ChangeAt Go.RowKit Go.Deep

def iopE : Elem (Int × Int) where
  enc c := [.int .i64 c.1, .int .u32 c.2]
  sz := 2
  len _ := rfl
  one x u hu := by simp at hu; rcases hu with rfl | rfl <;> rfl
  pos := by omega

def iopOk (c : Int × Int) : Prop := (Lit.int .i64 c.1).wf = true ∧ (Lit.int .u32 c.2).wf = true

theorem op_fields : oneCellFields Try.prog (Try.prog.fieldsOf 37) = true := by kernel_rfl
theorem op_fields_size : Try.prog.cellsOf 37 = (Try.prog.fieldsOf 37).size := by kernel_rfl
theorem op_fields2 : (Try.prog.fieldsOf 37).size = 2 := by kernel_rfl

theorem iops_of {H : Type} {enc : TypeId × Value → H} {W : World} {sp : Nat → Bool} {held : Bool} {base fuel : Nat} {a0 : Option Addr} {len cap : Nat} {x : DataW H × List MemPlace}
    (hf : DataW.trod enc Try.prog W base sp held fuel 35 [.slice a0 len cap] = some x) :
    ∃ l : List (Int × Int), (Rd iopE W (.slice a0 len cap) l ∧ (∀ y ∈ l, iopOk y) ∧ l.length ≤ maxLen) ∧ l.length = len := by
  have hst : Try.prog.underlying 37 = some (.struct (Try.prog.fieldsOf 37)) := by kernel_rfl
  rcases open_slice_fields Try.underlying35 hst op_fields op_fields_size hf with ⟨hcs, _⟩ | ⟨a, l, c, m, D, Pl, hcs, _, hl, hcm, hm, _, hi⟩
  · simp at hcs
    obtain ⟨rfl, rfl, rfl⟩ := hcs
    exact ⟨[], ⟨Rd.nil _ _, by simp, by simp⟩, rfl⟩
  · simp at hcs
    obtain ⟨rfl, rfl, rfl⟩ := hcs
    rw [op_fields2] at hi
    have hml : len ≤ m := by rw [hm]; split <;> omega
    have hel : ∀ i, i < len → ∃ e : Int × Int, iopOk e ∧ W.cell? (a.add (i * 2)) = some (.int .i64 e.1) ∧ W.cell? (a.add (i * 2 + 1)) = some (.int .u32 e.2) := by
      intro i hil
      obtain ⟨ys, n, _, _, _, hj⟩ := hi i (by omega)
      simp only [Program.fieldsOf, Try.underlying37] at hj
      obtain ⟨v0, y0, h0, _, t0⟩ := hj 0 _ rfl
      obtain ⟨v1, y1, h1, _, t1⟩ := hj 1 _ rfl
      obtain ⟨k, e0, _, w0⟩ := DataW.trod_int Try.underlying3 t0
      obtain ⟨j, e1, _, w1⟩ := DataW.trod_int Try.underlying28 t1
      simp at e0 e1
      subst e0 e1
      exact ⟨(k, j), ⟨w0, w1⟩, h0, h1⟩
    obtain ⟨g, hg⟩ : ∃ g : Nat → Int × Int, ∀ i, i < len → iopOk (g i) ∧ W.cell? (a.add (i * 2)) = some (.int .i64 (g i).1) ∧ W.cell? (a.add (i * 2 + 1)) = some (.int .u32 (g i).2) :=
      ⟨fun i => if h : i < len then Classical.choose (hel i h) else (0, 0), fun i h => by simp only [h, dif_pos]; exact Classical.choose_spec (hel i h)⟩
    have hln : ((List.range len).map g).length = len := by simp
    refine ⟨(List.range len).map g, ⟨⟨some a, cap, by rw [hln], by rw [hln]; exact hl, fun hne => ?_⟩, fun y hy => ?_, by omega⟩, hln⟩
    · obtain ⟨b, off, s⟩ := a
      have hlen : 0 < len := by
        rcases Nat.eq_zero_or_pos len with h0 | h0
        · subst h0; simp at hne
        · exact h0
      have hs0 := (hg 0 hlen).2.1
      rw [Nat.zero_mul] at hs0
      obtain rfl := spot_none0 hs0
      refine ⟨b, off, rfl, fun i x hx j u hu => ?_⟩
      have hil : i < len := by
        have := (List.getElem?_eq_some_iff.1 hx).1
        rwa [hln] at this
      rw [List.getElem?_map, List.getElem?_range hil] at hx
      simp only [Option.map_some, Option.some.injEq] at hx
      subst hx
      obtain ⟨_, h0, h1⟩ := hg i hil
      rw [Addr.add_lit] at h0 h1
      have hj : j < 2 := (List.getElem?_eq_some_iff.1 hu).1
      rcases (by omega : j = 0 ∨ j = 1) with rfl | rfl <;> (simp [iopE] at hu; subst hu; assumption)
    · obtain ⟨i, hi2, rfl⟩ := List.mem_map.1 hy
      exact (hg i (List.mem_range.1 hi2)).1

/-- An argument that is a slice of calls. -/
theorem open_iops {H : Type} {enc : TypeId × Value → H} {W : World} {base : Nat} {v : Value} {d : DataW H} {p : List MemPlace}
    (hv : Value.okWide Try.prog W .any base 35 v) (h : DataW.Trod enc Try.prog W 0 (fun _ => true) true 35 v d p) :
    ∃ x : Value × List (Int × Int), v = x.1 ∧ (Rd iopE W x.1 x.2 ∧ (∀ y ∈ x.2, iopOk y) ∧ x.2.length ≤ maxLen) := by
  obtain ⟨a0, len0, cap0, rfl⟩ := okWide_slice Try.underlying35 hv
  obtain ⟨fuel, hf⟩ := h
  obtain ⟨l, hl, _⟩ := iops_of hf
  exact ⟨(_, l), rfl, hl⟩

end Go.Proofs.Ytmhhmenhfocfjaa
