/- Part 18 of the proofs of chapter Z16: OpenSt, OpenRd, Open16. -/
import Derived.Test.YtdbbchifkjhfcaaGreatGZ16AQ
import Derived.Test.YtdbbchifkjhfcaaGreatRows
import Derived.ProofKit
import Derived.OpenShut
import Derived.Deep.Slices
import Derived.Deep.Fields
import Derived.ChangeSame

section
/- How an argument that is a slice of structs of one-cell fields is opened. Plain lemmas; of no program. -/
namespace Go.Proofs.YtdbbchifkjhfcaaGreat
open Go.ChangeShapes Go.WideShapes Go.ChangeAt Go.RowKit Go.Deep

section
variable {H : Type} {enc : TypeId × Value → H} {P : Program} {w : World} {base : Nat} {spare : Nat → Bool} {held : Bool}
theorem open_slice_fields {t e : TypeId} {fs : Array Field} {fuel : Nat} {cs : List Value} {x : DataW H × List MemPlace} (ht : P.underlying t = some (.slice e)) (he : P.underlying e = some (.struct fs))
    (hone : oneCellFields P fs = true) (hC : P.cellsOf e = fs.size) (h : DataW.trod enc P w base spare held fuel t cs = some x) :
    (cs = [.slice none 0 0] ∧ x = (.nil, [])) ∨
    ∃ (a : Addr) (len cap m : Nat) (D : Nat → DataW H) (Pl : Nat → List MemPlace), cs = [.slice (some a) len cap] ∧ base ≤ a.block ∧ len ≤ cap ∧ cap ≤ maxLen ∧ m = (if spare a.block then cap else len) ∧
      x = (.slice ((List.range len).map D) ((List.range (m - len)).map fun j => D (len + j)), MemPlace.row a (m * fs.size) ++ (List.range m).flatMap Pl) ∧
      ∀ i, i < m → ∃ (ys : List (DataW H × List MemPlace)) (n : Nat), D i = .agg (ys.map (·.1)) ∧ Pl i = ys.flatMap (·.2) ∧ ys.length = fs.size ∧
        ∀ (j : Nat) (f : Field), fs[j]? = some f → ∃ (v : Value) (y : DataW H × List MemPlace), w.cell? (a.add (i * fs.size + j)) = some v ∧ ys[j]? = some y ∧ DataW.trod enc P w base spare held n f.type [v] = some y := by
  rcases open_slice ht h with h0 | ⟨a, len, cap, m, n, D, Pl, hcs, hb, hl, hm, hmm, hx, hi⟩
  · exact .inl h0
  · refine .inr ⟨a, len, cap, m, D, Pl, hcs, hb, hl, hm, hmm, by rw [hC] at hx; exact hx, fun i him => ?_⟩
    obtain ⟨cs', hc, ht'⟩ := hi i him
    rw [hC] at hc
    obtain ⟨ys, n', hn', hy, hlen, hyl, hf⟩ := DataW.trod_struct he ht'
    obtain ⟨_, hcl, hat⟩ := World.cells?_some hc
    simp only [Prod.mk.injEq] at hy
    refine ⟨ys, n', hy.1, hy.2, hyl, fun j f hj => ?_⟩
    obtain ⟨ho, hk⟩ := hone_of hone j f hj
    have hjl : j < fs.size := (Array.getElem?_eq_some_iff.1 hj).1
    have hcell := hat j hjl
    have hv : cs'[j]? = some (cs'[j]'(by omega)) := List.getElem?_eq_getElem (by omega)
    have h1 := hf j f hj
    rw [ho, hk] at h1
    have hone' : (cs'.drop j).take 1 = [cs'[j]'(by omega)] := by
      rw [List.drop_eq_getElem_cons (by omega)]
      rfl
    rw [hone'] at h1
    have hys : ys[j]? = some (ys[j]'(by omega)) := List.getElem?_eq_getElem (by omega)
    refine ⟨_, _, ?_, hys, h1.trans hys⟩
    rw [← Go.Deep.add_add, hcell, hv]
end

theorem spot_none0 {w : World} {b off : Nat} {s : Option Nat} {v : Value} (h : w.cell? ((⟨b, off, s⟩ : Addr).add 0) = some v) : s = none := by
  simpa [Addr.add] using World.cell?_spot h

end Go.Proofs.YtdbbchifkjhfcaaGreat
end

section
/- How an argument that is a slice of integers is opened, as a reading. Plain lemmas; of no program. -/
namespace Go.Proofs.YtdbbchifkjhfcaaGreat
open Go.ChangeShapes Go.WideShapes Go.ChangeAt Go.RowKit Go.Deep

/-- An argument that is a slice of integers, as a reading. -/
theorem open_ints_rd {H : Type} {enc : TypeId × Value → H} {P : Program} {W : World} {base : Nat} {t e : TypeId} {k : IntKind} {v : Value} {d : DataW H} {p : List MemPlace}
    (ht : P.underlying t = some (.slice e)) (he : P.underlying e = some (.int k)) (hC : P.cellsOf e = 1) (hv : Value.okWide P W .any base t v) (h : DataW.Trod enc P W 0 (fun _ => true) true t v d p) :
    ∃ x : Value × List Int, v = x.1 ∧ (Rd (intE k) W x.1 x.2 ∧ (∀ y ∈ x.2, (Lit.int k y).wf = true) ∧ x.2.length ≤ maxLen) := by
  obtain ⟨a0, len0, cap0, rfl⟩ := okWide_slice ht hv
  obtain ⟨fuel, hf⟩ := h
  rcases open_ints ht he hC hf with ⟨hcs, _⟩ | ⟨x, l, c, zs, hcs, _, hl, hm, hz, _, hcell, hwz⟩
  · simp [Value.cells] at hcs
    obtain ⟨rfl, rfl, rfl⟩ := hcs
    exact ⟨(_, []), rfl, Rd.nil _ _, by simp, by simp⟩
  · simp [Value.cells] at hcs
    obtain ⟨rfl, rfl, rfl⟩ := hcs
    have hz' : zs.length = cap0 := by simpa using hz
    have hl0 : (zs.take len0).length = len0 := by rw [List.length_take]; omega
    refine ⟨(_, zs.take len0), rfl, ⟨some x, cap0, by rw [hl0], by rw [hl0]; exact hl, fun hne => ?_⟩, fun y hy => hwz y (List.mem_of_mem_take hy), by show (zs.take len0).length ≤ maxLen; omega⟩
    have hn' : 0 < len0 := by
      rcases Nat.eq_zero_or_pos len0 with h0 | h0
      · subst h0; simp at hne
      · exact h0
    obtain ⟨b, off, sp⟩ := x
    have h0 := hcell 0 (by omega)
    obtain rfl := spot_none0 h0
    refine ⟨b, off, rfl, fun i y hy j u hu => ?_⟩
    have hi : i < len0 := by
      have h2 : i < (zs.take len0).length := (List.getElem?_eq_some_iff.1 hy).1
      omega
    have hc := hcell i (by omega)
    rw [Addr.add_lit] at hc
    rw [List.getElem?_take, if_pos hi] at hy
    have hj : j = 0 := by
      have := (List.getElem?_eq_some_iff.1 hu).1
      simp [intE] at this
      exact this
    subst hj
    simp [intE] at hu
    subst hu
    show W.cell? ⟨b, off + (i * 1 + 0), none⟩ = _
    rw [Nat.mul_one, Nat.add_zero, hc]
    simp [List.getD, hy]

end Go.Proofs.YtdbbchifkjhfcaaGreat
end

section
/- How an argument that is an array of two bytes is opened. -/
namespace Go.Proofs.YtdbbchifkjhfcaaGreat
open Go.ChangeShapes Go.WideShapes Go.ChangeAt Go.RowKit

set_option maxRecDepth 100000 in
theorem open_u8x2 {H : Type} {enc : TypeId × Value → H} {W : World} {base : Nat} {v : Value} {d : DataW H} {p : List MemPlace}
    (hv : Value.okWide Tryz.prog W .any base 22 v) (h : DataW.Trod enc Tryz.prog W 0 (fun _ => true) true 22 v d p) :
    ∃ x : Int × Int, v = .agg #[.int .u8 x.1, .int .u8 x.2] ∧ (0 ≤ x.1 ∧ x.1 ≤ 255) ∧ (0 ≤ x.2 ∧ x.2 ≤ 255) := by
  simp only [Value.okWide, Tryz.underlying22] at hv
  obtain ⟨cs, rfl, hs, _⟩ := hv
  rw [show Tryz.prog.cellsOf 22 = 2 from by kernel_rfl] at hs
  obtain ⟨a, b, rfl⟩ : ∃ a b, cs = #[a, b] := by
    obtain ⟨l⟩ := cs
    match l, hs with
    | [a, b], _ => exact ⟨a, b, rfl⟩
  obtain ⟨fuel, hf⟩ := h
  cases fuel with
  | zero => simp [DataW.trod] at hf
  | succ m =>
    rw [DataW.trod_step] at hf
    unfold DataW.trodStep at hf
    simp only [Tryz.underlying22, Value.cells] at hf
    rw [if_pos (by rw [show Tryz.prog.cellsOf 22 = 2 from by kernel_rfl]; rfl)] at hf
    simp only [Option.map_eq_some_iff] at hf
    obtain ⟨ys, hy, _⟩ := hf
    rw [show List.range 2 = [0, 1] from rfl, show Tryz.prog.cellsOf 5 = 1 from by kernel_rfl] at hy
    rw [List.mapM_cons] at hy
    simp only [Option.bind_eq_bind, Option.bind_eq_some_iff] at hy
    obtain ⟨y0, h0, ys1, h1, _⟩ := hy
    rw [List.mapM_cons] at h1
    simp only [Option.bind_eq_bind, Option.bind_eq_some_iff] at h1
    obtain ⟨y1, h1, _⟩ := h1
    obtain ⟨x0, e0, _, w0⟩ := DataW.trod_int Tryz.underlying5 h0
    obtain ⟨x1, e1, _, w1⟩ := DataW.trod_int Tryz.underlying5 h1
    simp at e0 e1
    subst e0 e1
    exact ⟨(x0, x1), rfl, bounds_u8 w0, bounds_u8 w1⟩

set_option maxRecDepth 100000 in
/-- An argument that is a slice of bytes. -/
theorem open_bytes {H : Type} {enc : TypeId × Value → H} {W : World} {base : Nat} {v : Value} {d : DataW H} {p : List MemPlace}
    (hv : Value.okWide Tryz.prog W .any base 42 v) (h : DataW.Trod enc Tryz.prog W 0 (fun _ => true) true 42 v d p) :
    ∃ x : Value × List Int, v = x.1 ∧ (Rd (intE .u8) W x.1 x.2 ∧ (∀ y ∈ x.2, (Lit.int .u8 y).wf = true) ∧ x.2.length ≤ maxLen) := open_ints_rd Tryz.underlying42 Tryz.underlying5 (by kernel_rfl) hv h

end Go.Proofs.YtdbbchifkjhfcaaGreat
end

