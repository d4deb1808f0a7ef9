/- How an argument that is a message, or a slice of calls on messages, is opened. -/
import Derived.Test.YtjnaihhkbbeaoaaStNil
import Derived.Test.YtjnaihhkbbeaoaaOpenSt
import Derived.Deep.Strs
namespace Go.Proofs.Ytjnaihhkbbeaoaa
open Go.ChangeShapes Go.WideShapes Go.ChangeAt Go.RowKit Go.Deep

/-- A cell that reads as a slice of bytes. -/
theorem bytes_of {H : Type} {enc : TypeId × Value → H} {W : World} {sp : Nat → Bool} {held : Bool} {base fuel : Nat} {v : Value} {x : DataW H × List MemPlace}
    (hf : DataW.trod enc Try.prog W base sp held fuel 32 [v] = some x) : ∃ A l c, v = .slice A l.length c ∧ Rd (intE .u8) W v l ∧ l.length ≤ maxLen := by
  rcases open_ints Try.underlying32 Try.underlying5 (by kernel_rfl) hf with ⟨hcs, _⟩ | ⟨x, l, c, zs, hcs, _, hl, hm, hz, _, hcell, hwz⟩
  · simp at hcs
    subst hcs
    exact ⟨none, [], 0, rfl, Rd.nil _ _, by simp⟩
  · simp at hcs
    subst hcs
    have hle : l ≤ zs.length := by rw [hz]; split <;> omega
    have hl0 : (zs.take l).length = l := by rw [List.length_take]; omega
    refine ⟨some x, zs.take l, c, by rw [hl0], ⟨some x, c, by rw [hl0], by rw [hl0]; exact hl, fun hne => ?_⟩, by rw [hl0]; omega⟩
    have hn' : 0 < l := by
      rcases Nat.eq_zero_or_pos l with h0 | h0
      · subst h0; simp at hne
      · exact h0
    obtain ⟨b, off, s⟩ := x
    have h0 := hcell 0 (by omega)
    obtain rfl := spot_none0 h0
    refine ⟨b, off, rfl, fun i y hy j u hu => ?_⟩
    have hi : i < l := by
      have := (List.getElem?_eq_some_iff.1 hy).1
      rwa [hl0] at this
    have hj : j = 0 := by have := (List.getElem?_eq_some_iff.1 hu).1; simp [intE] at this; exact this
    subst hj
    simp [intE] at hu
    subst hu
    have h1 := hcell i (by omega)
    rw [Addr.add_lit] at h1
    rw [List.getElem?_take_of_lt hi] at hy
    simp [List.getD, hy] at h1
    simpa [intE] using h1

theorem msg_desc : ∃ f0 f1 f2 : Field, Try.prog.underlying 34 = some (.struct #[f0, f1, f2]) ∧ (f0.type = 22 ∧ f0.offset = 0) ∧ (f1.type = 31 ∧ f1.offset = 1) ∧ (f2.type = 32 ∧ f2.offset = 2) :=
  ⟨_, _, _, Try.underlying34, ⟨rfl, rfl⟩, ⟨rfl, rfl⟩, ⟨rfl, rfl⟩⟩

theorem msg_of {H : Type} {enc : TypeId × Value → H} {W : World} {sp : Nat → Bool} {held : Bool} {base fuel : Nat} {cs : List Value} {x : DataW H × List MemPlace}
    (hf : DataW.trod enc Try.prog W base sp held fuel 34 cs = some x) : ∃ m : MB, cs = [.int .u32 m.m.uid, .int .u8 m.m.fl, m.bv] ∧ m.inn W := by
  obtain ⟨f0, f1, f2, hd, ⟨t0, o0⟩, ⟨t1, o1⟩, ⟨t2, o2⟩⟩ := msg_desc
  obtain ⟨y0, y1, y2, n, _, hl, h0, h1, h2⟩ := trod_struct3 hd hf
  rw [t0, o0, show Try.prog.cellsOf 22 = 1 from by kernel_rfl] at h0
  rw [t1, o1, show Try.prog.cellsOf 31 = 1 from by kernel_rfl] at h1
  rw [t2, o2, show Try.prog.cellsOf 32 = 1 from by kernel_rfl] at h2
  rw [show Try.prog.cellsOf 34 = 3 from by kernel_rfl] at hl
  match cs, hl with
  | [a, b, c], _ =>
  obtain ⟨uid, e0, _, w0⟩ := DataW.trod_int Try.underlying22 h0
  obtain ⟨fl, e1, _, w1⟩ := DataW.trod_int Try.underlying31 h1
  simp at e0 e1 h2
  subst e0 e1
  obtain ⟨A, l, cc, rfl, hr, hm⟩ := bytes_of h2
  exact ⟨⟨⟨uid, fl, l⟩, A, l.length, cc⟩, rfl, ⟨bounds_u32 w0, bounds_u8 w1⟩, hr, hm⟩

set_option maxRecDepth 100000 in
/-- An argument that is a message. -/
theorem open_msg {H : Type} {enc : TypeId × Value → H} {W : World} {base : Nat} {v : Value} {d : DataW H} {p : List MemPlace}
    (hv : Value.okWide Try.prog W .any base 34 v) (h : DataW.Trod enc Try.prog W 0 (fun _ => true) true 34 v d p) : ∃ x : MB, v = x.val ∧ x.inn W := by
  obtain ⟨cs, rfl, hs⟩ := okWide_struct Try.underlying34 hv
  obtain ⟨fuel, hf⟩ := h
  obtain ⟨m, hm, hi⟩ := msg_of hf
  refine ⟨m, ?_, hi⟩
  have hc : (Value.agg cs).cells = cs := rfl
  rw [hc] at hm
  unfold MB.val
  congr 1
  exact Array.toList_inj.1 (by rw [hm]; rfl)

/-- A call on a table: its kind, a message, a mode. -/
structure SOp where
  k : Int
  x : MB
  mode : Int

def sopE : Elem SOp where
  enc o := [.int .i64 o.k, .int .u32 o.x.m.uid, .int .u8 o.x.m.fl, .slice o.x.A o.x.n o.x.c, .int .i64 o.mode]
  sz := 5
  len _ := rfl
  one x u hu := by simp at hu; rcases hu with rfl | rfl | rfl | rfl | rfl <;> rfl
  pos := by omega

def SOp.inn (W : World) (o : SOp) : Prop := (Lit.int .i64 o.k).wf = true ∧ o.x.inn W ∧ (Lit.int .i64 o.mode).wf = true

theorem sop_desc : ∃ f0 f1 f2 : Field, Try.prog.underlying 49 = some (.struct #[f0, f1, f2]) ∧ (f0.type = 3 ∧ f0.offset = 0) ∧ (f1.type = 34 ∧ f1.offset = 1) ∧ (f2.type = 3 ∧ f2.offset = 4) :=
  ⟨_, _, _, Try.underlying49, ⟨rfl, rfl⟩, ⟨rfl, rfl⟩, ⟨rfl, rfl⟩⟩

theorem sop_of {H : Type} {enc : TypeId × Value → H} {W : World} {sp : Nat → Bool} {held : Bool} {base fuel : Nat} {cs : List Value} {x : DataW H × List MemPlace}
    (hf : DataW.trod enc Try.prog W base sp held fuel 49 cs = some x) : ∃ o : SOp, cs = sopE.enc o ∧ o.inn W := by
  obtain ⟨f0, f1, f2, hd, ⟨t0, o0⟩, ⟨t1, o1⟩, ⟨t2, o2⟩⟩ := sop_desc
  obtain ⟨y0, y1, y2, n, _, hl, h0, h1, h2⟩ := trod_struct3 hd hf
  rw [t0, o0, show Try.prog.cellsOf 3 = 1 from by kernel_rfl] at h0
  rw [t1, o1, show Try.prog.cellsOf 34 = 3 from by kernel_rfl] at h1
  rw [t2, o2, show Try.prog.cellsOf 3 = 1 from by kernel_rfl] at h2
  rw [show Try.prog.cellsOf 49 = 5 from by kernel_rfl] at hl
  match cs, hl with
  | [a, b, c, d, e], _ =>
  obtain ⟨k, e0, _, w0⟩ := DataW.trod_int Try.underlying3 h0
  obtain ⟨mo, e2, _, w2⟩ := DataW.trod_int Try.underlying3 h2
  obtain ⟨m, hm, hi⟩ := msg_of h1
  simp at e0 e2 hm
  obtain ⟨rfl, rfl, rfl⟩ := hm
  subst e0 e2
  exact ⟨⟨k, m, mo⟩, rfl, w0, hi, w2⟩

theorem sops_of {H : Type} {enc : TypeId × Value → H} {W : World} {sp : Nat → Bool} {held : Bool} {base fuel : Nat} {a0 : Option Addr} {len cap : Nat} {x : DataW H × List MemPlace}
    (hf : DataW.trod enc Try.prog W base sp held fuel 45 [.slice a0 len cap] = some x) :
    ∃ l : List SOp, (Rd sopE W (.slice a0 len cap) l ∧ (∀ y ∈ l, y.inn W) ∧ l.length ≤ maxLen) ∧ l.length = len := by
  rcases open_slice Try.underlying45 hf with ⟨hcs, _⟩ | ⟨a, l, c, m, n, D, Pl, hcs, _, hl, hcm, hm, _, hi⟩
  · simp at hcs
    obtain ⟨rfl, rfl, rfl⟩ := hcs
    exact ⟨[], ⟨Rd.nil _ _, by simp, by simp⟩, rfl⟩
  · simp at hcs
    obtain ⟨rfl, rfl, rfl⟩ := hcs
    rw [show Try.prog.cellsOf 49 = 5 from by kernel_rfl] at hi
    have hml : len ≤ m := by rw [hm]; split <;> omega
    have hel : ∀ i, i < len → ∃ o : SOp, o.inn W ∧ ∀ j u, (sopE.enc o)[j]? = some u → W.cell? (a.add (i * 5 + j)) = some u := by
      intro i hil
      obtain ⟨cs', hc, ht⟩ := hi i (by omega)
      obtain ⟨o, rfl, ho⟩ := sop_of ht
      obtain ⟨_, hcl, hat⟩ := World.cells?_some hc
      refine ⟨o, ho, fun j u hu => ?_⟩
      have hj : j < 5 := (List.getElem?_eq_some_iff.1 hu).1
      rw [← Go.Deep.add_add, hat j hj, hu]
    obtain ⟨g, hg⟩ : ∃ g : Nat → SOp, ∀ i, i < len → (g i).inn W ∧ ∀ j u, (sopE.enc (g i))[j]? = some u → W.cell? (a.add (i * 5 + j)) = some u :=
      ⟨fun i => if h : i < len then Classical.choose (hel i h) else ⟨0, ⟨⟨0, 0, []⟩, none, 0, 0⟩, 0⟩, fun i h => by simp only [h, dif_pos]; exact Classical.choose_spec (hel i h)⟩
    have hln : ((List.range len).map g).length = len := by simp
    refine ⟨(List.range len).map g, ⟨⟨some a, cap, by rw [hln], by rw [hln]; exact hl, fun hne => ?_⟩, fun y hy => ?_, by omega⟩, hln⟩
    · obtain ⟨b, off, s⟩ := a
      have hlen : 0 < len := by
        rcases Nat.eq_zero_or_pos len with h0 | h0
        · subst h0; simp at hne
        · exact h0
      have hs0 := (hg 0 hlen).2 0 _ rfl
      rw [Nat.zero_mul] at hs0
      obtain rfl := spot_none0 hs0
      refine ⟨b, off, rfl, fun i x hx j u hu => ?_⟩
      have hil : i < len := by
        have := (List.getElem?_eq_some_iff.1 hx).1
        rwa [hln] at this
      rw [List.getElem?_map, List.getElem?_range hil] at hx
      simp only [Option.map_some, Option.some.injEq] at hx
      subst hx
      have h1 := (hg i hil).2 j u hu
      rwa [Addr.add_lit] at h1
    · obtain ⟨i, hi2, rfl⟩ := List.mem_map.1 hy
      exact (hg i (List.mem_range.1 hi2)).1

set_option maxRecDepth 100000 in
/-- An argument that is a slice of calls. -/
theorem open_sops {H : Type} {enc : TypeId × Value → H} {W : World} {base : Nat} {v : Value} {d : DataW H} {p : List MemPlace}
    (hv : Value.okWide Try.prog W .any base 45 v) (h : DataW.Trod enc Try.prog W 0 (fun _ => true) true 45 v d p) :
    ∃ x : Value × List SOp, v = x.1 ∧ (Rd sopE W x.1 x.2 ∧ (∀ y ∈ x.2, y.inn W) ∧ x.2.length ≤ maxLen) := by
  obtain ⟨a0, len0, cap0, rfl⟩ := okWide_slice Try.underlying45 hv
  obtain ⟨fuel, hf⟩ := h
  obtain ⟨l, hl, _⟩ := sops_of hf
  exact ⟨(_, l), rfl, hl⟩

end Go.Proofs.Ytjnaihhkbbeaoaa
