/- How an argument that is a slice of events is opened: it reads as a list of events whose numbers fit their kinds. -/
import Derived.Test.YtjaapenojppnpaaEv
import Derived.ProofKit
import Derived.OpenShut
import Derived.Deep.Slices
import Derived.Deep.Fields
import Derived.ChangeSame
namespace Go.Proofs.Ytjaapenojppnpaa
open Go.ChangeShapes Go.WideShapes Go.ChangeAt Go.RowKit Go.Deep

section
variable {H : Type} {enc : TypeId × Value → H} {P : Program} {w : World} {base : Nat} {spare : Nat → Bool} {held : Bool}
theorem open_slice_fields {t e : TypeId} {fs : Array Field} {fuel : Nat} {cs : List Value} {x : DataW H × List MemPlace} (ht : P.underlying t = some (.slice e)) (he : P.underlying e = some (.struct fs))
    (hone : oneCellFields P fs = true) (hC : P.cellsOf e = fs.size) (h : DataW.trod enc P w base spare held fuel t cs = some x) :
    (cs = [.slice none 0 0] ∧ x = (.nil, [])) ∨
    ∃ (a : Addr) (len cap m : Nat) (D : Nat → DataW H) (Pl : Nat → List MemPlace), cs = [.slice (some a) len cap] ∧ base ≤ a.block ∧ len ≤ cap ∧ cap ≤ maxLen ∧ m = (if spare a.block then cap else len) ∧
      x = (.slice ((List.range len).map D) ((List.range (m - len)).map fun j => D (len + j)), MemPlace.row a (m * fs.size) ++ (List.range m).flatMap Pl) ∧
      ∀ i, i < m → ∃ (ys : List (DataW H × List MemPlace)) (n : Nat), D i = .agg (ys.map (·.1)) ∧ Pl i = ys.flatMap (·.2) ∧ ys.length = fs.size ∧
        ∀ (j : Nat) (f : Field), fs[j]? = some f → ∃ (v : Value) (y : DataW H × List MemPlace), w.cell? (a.add (i * fs.size + j)) = some v ∧ ys[j]? = some y ∧ DataW.trod enc P w base spare held n f.type [v] = some y := by
  rcases open_slice ht h with h0 | ⟨a, len, cap, m, n, D, Pl, hcs, hb, hl, hm, hmm, hx, hi⟩
  · exact .inl h0
  · refine .inr ⟨a, len, cap, m, D, Pl, hcs, hb, hl, hm, hmm, by rw [hC] at hx; exact hx, fun i him => ?_⟩
    obtain ⟨cs', hc, ht'⟩ := hi i him
    rw [hC] at hc
    obtain ⟨ys, n', hn', hy, hlen, hyl, hf⟩ := DataW.trod_struct he ht'
    obtain ⟨_, hcl, hat⟩ := World.cells?_some hc
    simp only [Prod.mk.injEq] at hy
    refine ⟨ys, n', hy.1, hy.2, hyl, fun j f hj => ?_⟩
    obtain ⟨ho, hk⟩ := hone_of hone j f hj
    have hjl : j < fs.size := (Array.getElem?_eq_some_iff.1 hj).1
    have hcell := hat j hjl
    have hv : cs'[j]? = some (cs'[j]'(by omega)) := List.getElem?_eq_getElem (by omega)
    have h1 := hf j f hj
    rw [ho, hk] at h1
    have hone' : (cs'.drop j).take 1 = [cs'[j]'(by omega)] := by
      rw [List.drop_eq_getElem_cons (by omega)]
      rfl
    rw [hone'] at h1
    have hys : ys[j]? = some (ys[j]'(by omega)) := List.getElem?_eq_getElem (by omega)
    refine ⟨_, _, ?_, hys, h1.trans hys⟩
    rw [← Go.Deep.add_add, hcell, hv]
end

theorem spot_none0 {w : World} {b off : Nat} {s : Option Nat} {v : Value} (h : w.cell? ((⟨b, off, s⟩ : Addr).add 0) = some v) : s = none := by
  simpa [Addr.add] using World.cell?_spot h

theorem ev_fields : oneCellFields Try.prog (Try.prog.fieldsOf 29) = true := by kernel_rfl
theorem ev_fields_size : Try.prog.cellsOf 29 = (Try.prog.fieldsOf 29).size := by kernel_rfl
theorem ev_fields3 : (Try.prog.fieldsOf 29).size = 3 := by kernel_rfl

/-- From a slice's reading to its events; the slice's cells are given as 'cs'. -/
theorem events_of {H : Type} {enc : TypeId × Value → H} {W : World} {sp : Nat → Bool} {held : Bool} {base fuel : Nat} {a0 : Option Addr} {len cap : Nat} {x : DataW H × List MemPlace}
    (hf : DataW.trod enc Try.prog W base sp held fuel 22 [.slice a0 len cap] = some x) :
    ∃ l : List Ev, (Rd evE W (.slice a0 len cap) l ∧ ∀ y ∈ l, y.wf) ∧ l.length = len := by
  have hst : Try.prog.underlying 29 = some (.struct (Try.prog.fieldsOf 29)) := by kernel_rfl
  rcases open_slice_fields Try.underlying22 hst ev_fields ev_fields_size hf with ⟨hcs, _⟩ | ⟨a, l, c, m, D, Pl, hcs, _, hl, _, hm, _, hi⟩
  · simp at hcs
    obtain ⟨rfl, rfl, rfl⟩ := hcs
    exact ⟨[], ⟨Rd.nil _ _, by simp⟩, rfl⟩
  · simp at hcs
    obtain ⟨rfl, rfl, rfl⟩ := hcs
    rw [ev_fields3] at hi
    have hml : len ≤ m := by rw [hm]; split <;> omega
    have hel : ∀ i, i < len → ∃ e : Ev, e.wf ∧ W.cell? (a.add (i * 3)) = some (.int .i64 e.k) ∧ W.cell? (a.add (i * 3 + 1)) = some (.int .u32 e.u) ∧ W.cell? (a.add (i * 3 + 2)) = some (.int .u8 e.f) := by
      intro i hil
      obtain ⟨ys, n, _, _, _, hj⟩ := hi i (by omega)
      simp only [Program.fieldsOf, Try.underlying29] at hj
      obtain ⟨v0, y0, h0, _, t0⟩ := hj 0 _ rfl
      obtain ⟨v1, y1, h1, _, t1⟩ := hj 1 _ rfl
      obtain ⟨v2, y2, h2, _, t2⟩ := hj 2 _ rfl
      obtain ⟨k, e0, _, w0⟩ := DataW.trod_int Try.underlying3 t0
      obtain ⟨u, e1, _, w1⟩ := DataW.trod_int Try.underlying26 t1
      obtain ⟨f, e2, _, w2⟩ := DataW.trod_int Try.underlying27 t2
      simp at e0 e1 e2
      subst e0 e1 e2
      exact ⟨⟨k, u, f⟩, ⟨w0, w1, w2⟩, h0, h1, h2⟩
    obtain ⟨g, hg⟩ : ∃ g : Nat → Ev, ∀ i, i < len → (g i).wf ∧ W.cell? (a.add (i * 3)) = some (.int .i64 (g i).k) ∧ W.cell? (a.add (i * 3 + 1)) = some (.int .u32 (g i).u) ∧ W.cell? (a.add (i * 3 + 2)) = some (.int .u8 (g i).f) :=
      ⟨fun i => if h : i < len then Classical.choose (hel i h) else ⟨0, 0, 0⟩, fun i h => by simp only [h, dif_pos]; exact Classical.choose_spec (hel i h)⟩
    have hln : ((List.range len).map g).length = len := by simp
    refine ⟨(List.range len).map g, ⟨⟨some a, cap, by rw [hln], by rw [hln]; exact hl, fun hne => ?_⟩, fun y hy => ?_⟩, hln⟩
    · obtain ⟨b, off, s⟩ := a
      have hlen : 0 < len := by
        rcases Nat.eq_zero_or_pos len with h0 | h0
        · subst h0; simp at hne
        · exact h0
      have hs0 := (hg 0 hlen).2.1
      rw [Nat.zero_mul] at hs0
      obtain rfl := spot_none0 hs0
      refine ⟨b, off, rfl, fun i x hx j u hu => ?_⟩
      have hil : i < len := by
        have := (List.getElem?_eq_some_iff.1 hx).1
        rwa [hln] at this
      rw [List.getElem?_map, List.getElem?_range hil] at hx
      simp only [Option.map_some, Option.some.injEq] at hx
      subst hx
      obtain ⟨_, h0, h1, h2⟩ := hg i hil
      rw [Addr.add_lit] at h0 h1 h2
      have hj : j < 3 := (List.getElem?_eq_some_iff.1 hu).1
      rcases (by omega : j = 0 ∨ j = 1 ∨ j = 2) with rfl | rfl | rfl <;> (simp [evE] at hu; subst hu; assumption)
    · obtain ⟨i, hi2, rfl⟩ := List.mem_map.1 hy
      exact (hg i (List.mem_range.1 hi2)).1

/-- An argument that is a slice of events. -/
theorem open_events {H : Type} {enc : TypeId × Value → H} {W : World} {base : Nat} {v : Value} {d : DataW H} {p : List MemPlace}
    (hv : Value.okWide Try.prog W .any base 22 v) (h : DataW.Trod enc Try.prog W 0 (fun _ => true) true 22 v d p) :
    ∃ x : Value × List Ev, v = x.1 ∧ (Rd evE W x.1 x.2 ∧ ∀ y ∈ x.2, y.wf) := by
  obtain ⟨a0, len0, cap0, rfl⟩ := okWide_slice Try.underlying22 hv
  obtain ⟨fuel, hf⟩ := h
  obtain ⟨l, hl, _⟩ := events_of hf
  exact ⟨(_, l), rfl, hl⟩

end Go.Proofs.Ytjaapenojppnpaa
