/- How an argument that is a slice of calls (a kind and a list of events) is opened. -/
import Derived.Test.YtjaapenojppnpaaOpenEv
namespace Go.Proofs.Ytjaapenojppnpaa
open Go.ChangeShapes Go.WideShapes Go.ChangeAt Go.RowKit Go.Deep

/-- A call: its kind, the events' slice, the events. -/
structure Cmd where
  k : Int
  A : Option Addr
  c : Nat
  l : List Ev

def Cmd.v (c : Cmd) : Value := .slice c.A c.l.length c.c

def cmdE : Elem Cmd where
  enc c := [.int .i64 c.k, .slice c.A c.l.length c.c]
  sz := 2
  len _ := rfl
  one x u hu := by simp at hu; rcases hu with rfl | rfl <;> rfl
  pos := by omega

/-- The kind fits, the slice reads as the events, which fit. -/
def Cmd.ok (W : World) (c : Cmd) : Prop := (Lit.int .i64 c.k).wf = true ∧ Rd evE W c.v c.l ∧ ∀ y ∈ c.l, y.wf

theorem op_fields : oneCellFields Try.prog (Try.prog.fieldsOf 41) = true := by kernel_rfl
theorem op_fields_size : Try.prog.cellsOf 41 = (Try.prog.fieldsOf 41).size := by kernel_rfl
theorem op_fields2 : (Try.prog.fieldsOf 41).size = 2 := by kernel_rfl

/-- A cell that reads as a slice of events. -/
theorem events_at {H : Type} {enc : TypeId × Value → H} {W : World} {sp : Nat → Bool} {held : Bool} {base fuel : Nat} {v : Value} {x : DataW H × List MemPlace}
    (hf : DataW.trod enc Try.prog W base sp held fuel 22 [v] = some x) :
    ∃ (A : Option Addr) (c : Nat) (l : List Ev), v = .slice A l.length c ∧ Rd evE W (.slice A l.length c) l ∧ ∀ y ∈ l, y.wf := by
  have hst : Try.prog.underlying 29 = some (.struct (Try.prog.fieldsOf 29)) := by kernel_rfl
  have hv : ∃ A n c, v = .slice A n c := by
    rcases open_slice_fields Try.underlying22 hst ev_fields ev_fields_size hf with ⟨hcs, _⟩ | ⟨a, l, c, m, D, Pl, hcs, _⟩
    · simp at hcs; exact ⟨_, _, _, hcs⟩
    · simp at hcs; exact ⟨_, _, _, hcs⟩
  obtain ⟨A, n, c, rfl⟩ := hv
  obtain ⟨l, ⟨h1, h2⟩, rfl⟩ := events_of hf
  exact ⟨A, c, l, rfl, h1, h2⟩

theorem cmds_of {H : Type} {enc : TypeId × Value → H} {W : World} {sp : Nat → Bool} {held : Bool} {base fuel : Nat} {a0 : Option Addr} {len cap : Nat} {x : DataW H × List MemPlace}
    (hf : DataW.trod enc Try.prog W base sp held fuel 36 [.slice a0 len cap] = some x) :
    ∃ l : List Cmd, (Rd cmdE W (.slice a0 len cap) l ∧ (∀ y ∈ l, y.ok W) ∧ l.length ≤ maxLen) ∧ l.length = len := by
  have hst : Try.prog.underlying 41 = some (.struct (Try.prog.fieldsOf 41)) := by kernel_rfl
  rcases open_slice_fields Try.underlying36 hst op_fields op_fields_size hf with ⟨hcs, _⟩ | ⟨a, l, c, m, D, Pl, hcs, _, hl, hcm, hm, _, hi⟩
  · simp at hcs
    obtain ⟨rfl, rfl, rfl⟩ := hcs
    exact ⟨[], ⟨Rd.nil _ _, by simp, by simp⟩, rfl⟩
  · simp at hcs
    obtain ⟨rfl, rfl, rfl⟩ := hcs
    rw [op_fields2] at hi
    have hml : len ≤ m := by rw [hm]; split <;> omega
    have hel : ∀ i, i < len → ∃ e : Cmd, e.ok W ∧ W.cell? (a.add (i * 2)) = some (.int .i64 e.k) ∧ W.cell? (a.add (i * 2 + 1)) = some (.slice e.A e.l.length e.c) := by
      intro i hil
      obtain ⟨ys, n, _, _, _, hj⟩ := hi i (by omega)
      simp only [Program.fieldsOf, Try.underlying41] at hj
      obtain ⟨v0, y0, h0, _, t0⟩ := hj 0 _ rfl
      obtain ⟨v1, y1, h1, _, t1⟩ := hj 1 _ rfl
      obtain ⟨k, e0, _, w0⟩ := DataW.trod_int Try.underlying3 t0
      simp at e0
      subst e0
      obtain ⟨A, c, l, rfl, h2, h3⟩ := events_at t1
      exact ⟨⟨k, A, c, l⟩, ⟨w0, h2, h3⟩, h0, h1⟩
    obtain ⟨g, hg⟩ : ∃ g : Nat → Cmd, ∀ i, i < len → (g i).ok W ∧ W.cell? (a.add (i * 2)) = some (.int .i64 (g i).k) ∧ W.cell? (a.add (i * 2 + 1)) = some (.slice (g i).A (g i).l.length (g i).c) :=
      ⟨fun i => if h : i < len then Classical.choose (hel i h) else ⟨0, none, 0, []⟩, fun i h => by simp only [h, dif_pos]; exact Classical.choose_spec (hel i h)⟩
    have hln : ((List.range len).map g).length = len := by simp
    refine ⟨(List.range len).map g, ⟨⟨some a, cap, by rw [hln], by rw [hln]; exact hl, fun hne => ?_⟩, fun y hy => ?_, by omega⟩, hln⟩
    · obtain ⟨b, off, s⟩ := a
      have hlen : 0 < len := by
        rcases Nat.eq_zero_or_pos len with h0 | h0
        · subst h0; simp at hne
        · exact h0
      have hs0 := (hg 0 hlen).2.1
      rw [Nat.zero_mul] at hs0
      obtain rfl := spot_none0 hs0
      refine ⟨b, off, rfl, fun i x hx j u hu => ?_⟩
      have hil : i < len := by
        have := (List.getElem?_eq_some_iff.1 hx).1
        rwa [hln] at this
      rw [List.getElem?_map, List.getElem?_range hil] at hx
      simp only [Option.map_some, Option.some.injEq] at hx
      subst hx
      obtain ⟨_, h0, h1⟩ := hg i hil
      rw [Addr.add_lit] at h0 h1
      have hj : j < 2 := (List.getElem?_eq_some_iff.1 hu).1
      rcases (by omega : j = 0 ∨ j = 1) with rfl | rfl <;> (simp [cmdE] at hu; subst hu; assumption)
    · obtain ⟨i, hi2, rfl⟩ := List.mem_map.1 hy
      exact (hg i (List.mem_range.1 hi2)).1

/-- An argument that is a slice of calls. -/
theorem open_cmds {H : Type} {enc : TypeId × Value → H} {W : World} {base : Nat} {v : Value} {d : DataW H} {p : List MemPlace}
    (hv : Value.okWide Try.prog W .any base 36 v) (h : DataW.Trod enc Try.prog W 0 (fun _ => true) true 36 v d p) :
    ∃ x : Value × List Cmd, v = x.1 ∧ (Rd cmdE W x.1 x.2 ∧ (∀ y ∈ x.2, y.ok W) ∧ x.2.length ≤ maxLen) := by
  obtain ⟨a0, len0, cap0, rfl⟩ := okWide_slice Try.underlying36 hv
  obtain ⟨fuel, hf⟩ := h
  obtain ⟨l, hl, _⟩ := cmds_of hf
  exact ⟨(_, l), rfl, hl⟩

end Go.Proofs.Ytjaapenojppnpaa
