/- Part 12 of the proof of StripeAgrees: OpenMsg, StepApp, Asc. -/
import Derived.Test.YtjnaihhkbbeaoaaGStripeAgreesAK
import Derived.Deep.Strs

section
/- How an argument that is a message, or a slice of calls on messages, is opened. -/
namespace Go.Proofs.Ytjnaihhkbbeaoaa
open Go.ChangeShapes Go.WideShapes Go.ChangeAt Go.RowKit Go.Deep

/-- A cell that reads as a slice of bytes. -/
theorem bytes_of {H : Type} {enc : TypeId × Value → H} {W : World} {sp : Nat → Bool} {held : Bool} {base fuel : Nat} {v : Value} {x : DataW H × List MemPlace}
    (hf : DataW.trod enc Try.prog W base sp held fuel 32 [v] = some x) : ∃ A l c, v = .slice A l.length c ∧ Rd (intE .u8) W v l ∧ l.length ≤ maxLen := by
  rcases open_ints Try.underlying32 Try.underlying5 (by kernel_rfl) hf with ⟨hcs, _⟩ | ⟨x, l, c, zs, hcs, _, hl, hm, hz, _, hcell, hwz⟩
  · simp at hcs
    subst hcs
    exact ⟨none, [], 0, rfl, Rd.nil _ _, by simp⟩
  · simp at hcs
    subst hcs
    have hle : l ≤ zs.length := by rw [hz]; split <;> omega
    have hl0 : (zs.take l).length = l := by rw [List.length_take]; omega
    refine ⟨some x, zs.take l, c, by rw [hl0], ⟨some x, c, by rw [hl0], by rw [hl0]; exact hl, fun hne => ?_⟩, by rw [hl0]; omega⟩
    have hn' : 0 < l := by
      rcases Nat.eq_zero_or_pos l with h0 | h0
      · subst h0; simp at hne
      · exact h0
    obtain ⟨b, off, s⟩ := x
    have h0 := hcell 0 (by omega)
    obtain rfl := spot_none0 h0
    refine ⟨b, off, rfl, fun i y hy j u hu => ?_⟩
    have hi : i < l := by
      have := (List.getElem?_eq_some_iff.1 hy).1
      rwa [hl0] at this
    have hj : j = 0 := by have := (List.getElem?_eq_some_iff.1 hu).1; simp [intE] at this; exact this
    subst hj
    simp [intE] at hu
    subst hu
    have h1 := hcell i (by omega)
    rw [Addr.add_lit] at h1
    rw [List.getElem?_take_of_lt hi] at hy
    simp [List.getD, hy] at h1
    simpa [intE] using h1

theorem msg_desc : ∃ f0 f1 f2 : Field, Try.prog.underlying 34 = some (.struct #[f0, f1, f2]) ∧ (f0.type = 22 ∧ f0.offset = 0) ∧ (f1.type = 31 ∧ f1.offset = 1) ∧ (f2.type = 32 ∧ f2.offset = 2) :=
  ⟨_, _, _, Try.underlying34, ⟨rfl, rfl⟩, ⟨rfl, rfl⟩, ⟨rfl, rfl⟩⟩

theorem msg_of {H : Type} {enc : TypeId × Value → H} {W : World} {sp : Nat → Bool} {held : Bool} {base fuel : Nat} {cs : List Value} {x : DataW H × List MemPlace}
    (hf : DataW.trod enc Try.prog W base sp held fuel 34 cs = some x) : ∃ m : MB, cs = [.int .u32 m.m.uid, .int .u8 m.m.fl, m.bv] ∧ m.inn W := by
  obtain ⟨f0, f1, f2, hd, ⟨t0, o0⟩, ⟨t1, o1⟩, ⟨t2, o2⟩⟩ := msg_desc
  obtain ⟨y0, y1, y2, n, _, hl, h0, h1, h2⟩ := trod_struct3 hd hf
  rw [t0, o0, show Try.prog.cellsOf 22 = 1 from by kernel_rfl] at h0
  rw [t1, o1, show Try.prog.cellsOf 31 = 1 from by kernel_rfl] at h1
  rw [t2, o2, show Try.prog.cellsOf 32 = 1 from by kernel_rfl] at h2
  rw [show Try.prog.cellsOf 34 = 3 from by kernel_rfl] at hl
  match cs, hl with
  | [a, b, c], _ =>
  obtain ⟨uid, e0, _, w0⟩ := DataW.trod_int Try.underlying22 h0
  obtain ⟨fl, e1, _, w1⟩ := DataW.trod_int Try.underlying31 h1
  simp at e0 e1 h2
  subst e0 e1
  obtain ⟨A, l, cc, rfl, hr, hm⟩ := bytes_of h2
  exact ⟨⟨⟨uid, fl, l⟩, A, l.length, cc⟩, rfl, ⟨bounds_u32 w0, bounds_u8 w1⟩, hr, hm⟩

set_option maxRecDepth 100000 in
/-- An argument that is a message. -/
theorem open_msg {H : Type} {enc : TypeId × Value → H} {W : World} {base : Nat} {v : Value} {d : DataW H} {p : List MemPlace}
    (hv : Value.okWide Try.prog W .any base 34 v) (h : DataW.Trod enc Try.prog W 0 (fun _ => true) true 34 v d p) : ∃ x : MB, v = x.val ∧ x.inn W := by
  obtain ⟨cs, rfl, hs⟩ := okWide_struct Try.underlying34 hv
  obtain ⟨fuel, hf⟩ := h
  obtain ⟨m, hm, hi⟩ := msg_of hf
  refine ⟨m, ?_, hi⟩
  have hc : (Value.agg cs).cells = cs := rfl
  rw [hc] at hm
  unfold MB.val
  congr 1
  exact Array.toList_inj.1 (by rw [hm]; rfl)

/-- A call on a table: its kind, a message, a mode. -/
structure SOp where
  k : Int
  x : MB
  mode : Int

def sopE : Elem SOp where
  enc o := [.int .i64 o.k, .int .u32 o.x.m.uid, .int .u8 o.x.m.fl, .slice o.x.A o.x.n o.x.c, .int .i64 o.mode]
  sz := 5
  len _ := rfl
  one x u hu := by simp at hu; rcases hu with rfl | rfl | rfl | rfl | rfl <;> rfl
  pos := by omega

def SOp.inn (W : World) (o : SOp) : Prop := (Lit.int .i64 o.k).wf = true ∧ o.x.inn W ∧ (Lit.int .i64 o.mode).wf = true

theorem sop_desc : ∃ f0 f1 f2 : Field, Try.prog.underlying 49 = some (.struct #[f0, f1, f2]) ∧ (f0.type = 3 ∧ f0.offset = 0) ∧ (f1.type = 34 ∧ f1.offset = 1) ∧ (f2.type = 3 ∧ f2.offset = 4) :=
  ⟨_, _, _, Try.underlying49, ⟨rfl, rfl⟩, ⟨rfl, rfl⟩, ⟨rfl, rfl⟩⟩

theorem sop_of {H : Type} {enc : TypeId × Value → H} {W : World} {sp : Nat → Bool} {held : Bool} {base fuel : Nat} {cs : List Value} {x : DataW H × List MemPlace}
    (hf : DataW.trod enc Try.prog W base sp held fuel 49 cs = some x) : ∃ o : SOp, cs = sopE.enc o ∧ o.inn W := by
  obtain ⟨f0, f1, f2, hd, ⟨t0, o0⟩, ⟨t1, o1⟩, ⟨t2, o2⟩⟩ := sop_desc
  obtain ⟨y0, y1, y2, n, _, hl, h0, h1, h2⟩ := trod_struct3 hd hf
  rw [t0, o0, show Try.prog.cellsOf 3 = 1 from by kernel_rfl] at h0
  rw [t1, o1, show Try.prog.cellsOf 34 = 3 from by kernel_rfl] at h1
  rw [t2, o2, show Try.prog.cellsOf 3 = 1 from by kernel_rfl] at h2
  rw [show Try.prog.cellsOf 49 = 5 from by kernel_rfl] at hl
  match cs, hl with
  | [a, b, c, d, e], _ =>
  obtain ⟨k, e0, _, w0⟩ := DataW.trod_int Try.underlying3 h0
  obtain ⟨mo, e2, _, w2⟩ := DataW.trod_int Try.underlying3 h2
  obtain ⟨m, hm, hi⟩ := msg_of h1
  simp at e0 e2 hm
  obtain ⟨rfl, rfl, rfl⟩ := hm
  subst e0 e2
  exact ⟨⟨k, m, mo⟩, rfl, w0, hi, w2⟩

theorem sops_of {H : Type} {enc : TypeId × Value → H} {W : World} {sp : Nat → Bool} {held : Bool} {base fuel : Nat} {a0 : Option Addr} {len cap : Nat} {x : DataW H × List MemPlace}
    (hf : DataW.trod enc Try.prog W base sp held fuel 45 [.slice a0 len cap] = some x) :
    ∃ l : List SOp, (Rd sopE W (.slice a0 len cap) l ∧ (∀ y ∈ l, y.inn W) ∧ l.length ≤ maxLen) ∧ l.length = len := by
  rcases open_slice Try.underlying45 hf with ⟨hcs, _⟩ | ⟨a, l, c, m, n, D, Pl, hcs, _, hl, hcm, hm, _, hi⟩
  · simp at hcs
    obtain ⟨rfl, rfl, rfl⟩ := hcs
    exact ⟨[], ⟨Rd.nil _ _, by simp, by simp⟩, rfl⟩
  · simp at hcs
    obtain ⟨rfl, rfl, rfl⟩ := hcs
    rw [show Try.prog.cellsOf 49 = 5 from by kernel_rfl] at hi
    have hml : len ≤ m := by rw [hm]; split <;> omega
    have hel : ∀ i, i < len → ∃ o : SOp, o.inn W ∧ ∀ j u, (sopE.enc o)[j]? = some u → W.cell? (a.add (i * 5 + j)) = some u := by
      intro i hil
      obtain ⟨cs', hc, ht⟩ := hi i (by omega)
      obtain ⟨o, rfl, ho⟩ := sop_of ht
      obtain ⟨_, hcl, hat⟩ := World.cells?_some hc
      refine ⟨o, ho, fun j u hu => ?_⟩
      have hj : j < 5 := (List.getElem?_eq_some_iff.1 hu).1
      rw [← Go.Deep.add_add, hat j hj, hu]
    obtain ⟨g, hg⟩ : ∃ g : Nat → SOp, ∀ i, i < len → (g i).inn W ∧ ∀ j u, (sopE.enc (g i))[j]? = some u → W.cell? (a.add (i * 5 + j)) = some u :=
      ⟨fun i => if h : i < len then Classical.choose (hel i h) else ⟨0, ⟨⟨0, 0, []⟩, none, 0, 0⟩, 0⟩, fun i h => by simp only [h, dif_pos]; exact Classical.choose_spec (hel i h)⟩
    have hln : ((List.range len).map g).length = len := by simp
    refine ⟨(List.range len).map g, ⟨⟨some a, cap, by rw [hln], by rw [hln]; exact hl, fun hne => ?_⟩, fun y hy => ?_, by omega⟩, hln⟩
    · obtain ⟨b, off, s⟩ := a
      have hlen : 0 < len := by
        rcases Nat.eq_zero_or_pos len with h0 | h0
        · subst h0; simp at hne
        · exact h0
      have hs0 := (hg 0 hlen).2 0 _ rfl
      rw [Nat.zero_mul] at hs0
      obtain rfl := spot_none0 hs0
      refine ⟨b, off, rfl, fun i x hx j u hu => ?_⟩
      have hil : i < len := by
        have := (List.getElem?_eq_some_iff.1 hx).1
        rwa [hln] at this
      rw [List.getElem?_map, List.getElem?_range hil] at hx
      simp only [Option.map_some, Option.some.injEq] at hx
      subst hx
      have h1 := (hg i hil).2 j u hu
      rwa [Addr.add_lit] at h1
    · obtain ⟨i, hi2, rfl⟩ := List.mem_map.1 hy
      exact (hg i (List.mem_range.1 hi2)).1

set_option maxRecDepth 100000 in
/-- An argument that is a slice of calls. -/
theorem open_sops {H : Type} {enc : TypeId × Value → H} {W : World} {base : Nat} {v : Value} {d : DataW H} {p : List MemPlace}
    (hv : Value.okWide Try.prog W .any base 45 v) (h : DataW.Trod enc Try.prog W 0 (fun _ => true) true 45 v d p) :
    ∃ x : Value × List SOp, v = x.1 ∧ (Rd sopE W x.1 x.2 ∧ (∀ y ∈ x.2, y.inn W) ∧ x.2.length ≤ maxLen) := by
  obtain ⟨a0, len0, cap0, rfl⟩ := okWide_slice Try.underlying45 hv
  obtain ⟨fuel, hf⟩ := h
  obtain ⟨l, hl, _⟩ := sops_of hf
  exact ⟨(_, l), rfl, hl⟩

end Go.Proofs.Ytjnaihhkbbeaoaa
end

section
/- append of any slice that reads, as a step of a region that draws its order. Plain lemmas; of no program. -/
namespace Go.Proofs.Ytjnaihhkbbeaoaa
open Go.RowKit

section
variable {P : Program} {α : Type} {E : Elem α} {e : TypeId} {base : Nat} {w : World} {v : Value} {l : List α}
variable {ops : Array Oper} {rest : List Oper} {o : Oper} {a : Act} {Q : Exit → Act → World → Prop} {K : Act → World → Prop}

theorem step_append_list {F : Prop} (hgd : o.guard = none) (s x : Operand) (t : TypeId) (ho : o.op = .call { callee := .builtin .append, args := #[s, x], argTypes := #[t, t] })
    {i : TypeInfo} {z : Value} {bytes : Nat} (ht : P.underlying t = some (.slice e)) (hi : P.info? e = some i) (hz : i.zero = some z)
    (hsize : i.size = E.sz) (hby : i.bytes = bytes) (hzs : z.cells.size = E.sz)
    (hs : a.eval s = v) {u : Value} (hx : a.eval x = u) (m : List α) (h : Own E e base w v l) (hu : Rd E w u m)
    (h63 : l.length + m.length ≤ maxLen) (hbytes : (l.length + m.length) * bytes ≤ 140737488355328) (hbase : base ≤ w.heap.size)
    (hK : ∀ A c w', Own E e base w' (.slice A (l ++ m).length c) (l ++ m) → Fr (fun k => v.ownBlock = some k) w w' → (Value.ownBlock (.slice A (l ++ m).length c) = v.ownBlock ∨ Value.ownBlock (.slice A (l ++ m).length c) = some w.heap.size) → K (a.put o.dst (.slice A (l ++ m).length c)) w') :
    if Region.wanted o (yielded ops a.tmps) = true then Oper.wp P o a w K Q else F := by
  have hw : Region.wanted o (yielded ops a.tmps) = true := by simp [Region.wanted, hgd]
  rw [if_pos hw]
  obtain ⟨v', w', hr, h1, h2, h3⟩ := run_append_list (P := P) t o.type ht hi hz hsize hby hzs h hu h63 hbytes hbase
  obtain ⟨A, c, rfl, _⟩ := h1.form
  unfold Oper.wp execOp
  simp only [ho, resolve, invoke, builtin, Sem.run_bind, Sem.run_pure, Result.andThen_ok, List.map_toArray, List.map_cons, List.map_nil, hs, hx, hr]
  exact hK A c w' h1 h2 h3

/-- .. where the row that is appended to is new to an earlier world w0: so is what comes of it. -/
theorem step_append_new {F : Prop} (w0 : World) (hgd : o.guard = none) (s x : Operand) (t : TypeId) (ho : o.op = .call { callee := .builtin .append, args := #[s, x], argTypes := #[t, t] })
    {i : TypeInfo} {z : Value} {bytes : Nat} (ht : P.underlying t = some (.slice e)) (hi : P.info? e = some i) (hz : i.zero = some z)
    (hsize : i.size = E.sz) (hby : i.bytes = bytes) (hzs : z.cells.size = E.sz)
    (hs : a.eval s = v) {u : Value} (hx : a.eval x = u) (m : List α) (h : Own E e w0.heap.size w v l) (hu : Rd E w u m)
    (h63 : l.length + m.length ≤ maxLen) (hbytes : (l.length + m.length) * bytes ≤ 140737488355328) (hn : New w0 w) (r : List α) (hr : l ++ m = r)
    (hK : ∀ A c w', Own E e w0.heap.size w' (.slice A r.length c) r → New w0 w' → Hid (Fr (fun k => v.ownBlock = some k) w w') → K (a.put o.dst (.slice A r.length c)) w') :
    if Region.wanted o (yielded ops a.tmps) = true then Oper.wp P o a w K Q else F := by
  subst hr
  exact step_append_list hgd s x t ho ht hi hz hsize hby hzs hs hx m h hu h63 hbytes hn.size fun A c w' h1 h2 _ => hK A c w' h1 (New.append hn h h2) h2
end

/-- The first k of a slice that reads. -/
theorem Rd.take {α : Type} {E : Elem α} {w : World} {A : Option Addr} {n c : Nat} {l : List α} (h : Rd E w (.slice A n c) l) {k : Nat} (hk : k ≤ l.length) : Rd E w (.slice A k c) (l.take k) := by
  obtain ⟨A', c', he, hc, hcells⟩ := h
  cases he
  have hl : (l.take k).length = k := by rw [List.length_take]; omega
  refine ⟨A, c, by rw [hl], by omega, fun hne => ?_⟩
  obtain ⟨b, off, rfl, hcell⟩ := hcells (by rintro rfl; simp at hne)
  refine ⟨b, off, rfl, fun i x hx j u hu => hcell i x ?_ j u hu⟩
  have hi : i < k := by have := (List.getElem?_eq_some_iff.1 hx).1; omega
  rwa [List.getElem?_take_of_lt hi] at hx
/-- What stands from place k on. -/
theorem Rd.drop {α : Type} {E : Elem α} {w : World} {b off n c : Nat} {l : List α} (h : Rd E w (.slice (some ⟨b, off, none⟩) n c) l) {k : Nat} (hk : k ≤ l.length) (c' : Nat) (hc' : l.length - k ≤ c') : Rd E w (.slice (some ⟨b, off + k * E.sz, none⟩) (n - k) c') (l.drop k) := by
  obtain ⟨A', c0, he, hc, hcells⟩ := h
  cases he
  have hl : (l.drop k).length = l.length - k := List.length_drop
  refine ⟨_, c', by rw [hl], by omega, fun hne => ?_⟩
  obtain ⟨b', off', he, hcell⟩ := hcells (by rintro rfl; simp at hne)
  cases he
  refine ⟨_, _, rfl, fun i x hx j u hu => ?_⟩
  rw [List.getElem?_drop] at hx
  have := hcell (k + i) x hx j u hu
  rw [Nat.add_mul] at this
  rwa [show off + k * E.sz + (i * E.sz + j) = off + (k * E.sz + i * E.sz + j) by omega]

end Go.Proofs.Ytjnaihhkbbeaoaa
end

section
/- Strictly ascending lists of integers: the one with given members, insertion. Plain lemmas; of no program. -/
namespace Go.Proofs.Ytjnaihhkbbeaoaa
open Go.RowKit

/-- Strictly ascending. -/
def Asc (s : List Int) : Prop := s.Pairwise (· < ·)

theorem Asc.nil : Asc [] := List.Pairwise.nil
theorem Asc.tail {x : Int} {s : List Int} (h : Asc (x :: s)) : Asc s := (List.pairwise_cons.1 h).2
theorem Asc.head {x : Int} {s : List Int} (h : Asc (x :: s)) {y : Int} (hy : y ∈ s) : x < y := (List.pairwise_cons.1 h).1 y hy

theorem Asc.ext {s t : List Int} (hs : Asc s) (ht : Asc t) (h : ∀ x, x ∈ s ↔ x ∈ t) : s = t := by
  induction s generalizing t with
  | nil =>
    cases t with
    | nil => rfl
    | cons y t => exact absurd ((h y).2 (by simp)) (by simp)
  | cons x s ih =>
    cases t with
    | nil => exact absurd ((h x).1 (by simp)) (by simp)
    | cons y t =>
      have hxy : x = y := by
        have h1 := (h x).1 (by simp)
        have h2 := (h y).2 (by simp)
        rcases List.mem_cons.1 h1 with h1 | h1
        · exact h1
        · rcases List.mem_cons.1 h2 with h2 | h2
          · exact h2.symm
          · have := hs.head h2; have := ht.head h1; omega
      subst hxy
      refine congrArg _ (ih hs.tail ht.tail fun z => ?_)
      constructor
      · intro hz
        have h1 := hs.head hz
        rcases List.mem_cons.1 ((h z).1 (by simp [hz])) with rfl | h2
        · omega
        · exact h2
      · intro hz
        have h1 := ht.head hz
        rcases List.mem_cons.1 ((h z).2 (by simp [hz])) with rfl | h2
        · omega
        · exact h2

theorem Asc.get {s : List Int} (h : Asc s) {i j : Nat} {x y : Int} (hi : s[i]? = some x) (hj : s[j]? = some y) (hij : i < j) : x < y := by
  obtain ⟨h1, rfl⟩ := List.getElem?_eq_some_iff.1 hi
  obtain ⟨h2, rfl⟩ := List.getElem?_eq_some_iff.1 hj
  exact List.pairwise_iff_getElem.1 h i j h1 h2 hij
theorem Asc.of_get {s : List Int} (h : ∀ (i j : Nat) (x y : Int), s[i]? = some x → s[j]? = some y → i < j → x < y) : Asc s :=
  List.pairwise_iff_getElem.2 fun i j hi hj hij => h i j _ _ (List.getElem?_eq_getElem hi) (List.getElem?_eq_getElem hj) hij
theorem Asc.inj {s : List Int} (h : Asc s) {i j : Nat} {x : Int} (hi : s[i]? = some x) (hj : s[j]? = some x) : i = j := by
  rcases Nat.lt_trichotomy i j with h1 | h1 | h1
  · have := h.get hi hj h1; omega
  · exact h1
  · have := h.get hj hi h1; omega

/-- Put in at a place before which all is less and from which on all is greater. -/
theorem Asc.put {s : List Int} (h : Asc s) {y : Int} {k : Nat} (h1 : k = 0 ∨ ∃ x, s[k - 1]? = some x ∧ x < y) (h2 : ∀ x ∈ s.drop k, y < x) : Asc (s.take k ++ [y] ++ s.drop k) := by
  have hlt : ∀ x ∈ s.take k, x < y := by
    intro x hx
    obtain ⟨i, hi⟩ := List.mem_iff_getElem?.1 hx
    have hik : i < k ∧ i < s.length := by have := (List.getElem?_eq_some_iff.1 hi).1; rw [List.length_take] at this; omega
    rw [List.getElem?_take_of_lt hik.1] at hi
    rcases h1 with h1 | ⟨z, hz, hzy⟩
    · omega
    · by_cases he : i = k - 1
      · subst he; rw [hi] at hz; cases hz; exact hzy
      · have := h.get hi hz (by omega); omega
  have ha : Asc (s.take k) := List.Pairwise.sublist (List.take_sublist k s) h
  have hb : Asc (s.drop k) := List.Pairwise.sublist (List.drop_sublist k s) h
  have hab : ∀ x ∈ s.take k, ∀ z ∈ s.drop k, x < z := fun x hx z hz => Int.lt_trans (hlt x hx) (h2 z hz)
  unfold Asc at *
  rw [List.append_assoc]
  refine List.pairwise_append.2 ⟨ha, List.pairwise_append.2 ⟨by simp, hb, fun a hm b hbm => ?_⟩, fun a hm b hbm => ?_⟩
  · rw [List.mem_singleton.1 hm]; exact h2 b hbm
  · rcases List.mem_append.1 hbm with h3 | h3
    · rw [List.mem_singleton.1 h3]; exact hlt a hm
    · exact hab a hm b h3

theorem mem_put {s : List Int} {y z : Int} {k : Nat} : z ∈ s.take k ++ [y] ++ s.drop k ↔ z = y ∨ z ∈ s := by
  have : z ∈ s ↔ z ∈ s.take k ∨ z ∈ s.drop k := by
    conv => lhs; rw [← List.take_append_drop k s]
    exact List.mem_append
  rw [this]
  simp only [List.mem_append, List.mem_singleton]
  constructor
  · rintro ((h | h) | h)
    · exact .inr (.inl h)
    · exact .inl h
    · exact .inr (.inr h)
  · rintro (h | h | h)
    · exact .inl (.inr h)
    · exact .inl (.inl h)
    · exact .inr h

/-- The list that stands for l: ascending, the members of l that are not 0. -/
def AscOf (l s : List Int) : Prop := Asc s ∧ ∀ x, x ∈ s ↔ x ∈ l ∧ x ≠ 0
theorem AscOf.ext {l s t : List Int} (hs : AscOf l s) (ht : AscOf l t) : s = t := hs.1.ext ht.1 fun x => (hs.2 x).trans (ht.2 x).symm

end Go.Proofs.Ytjnaihhkbbeaoaa
end

