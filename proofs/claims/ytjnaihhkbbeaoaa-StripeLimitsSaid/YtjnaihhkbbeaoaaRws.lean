/- Slices of elements of any number of cells: read as a list, owned, appended to. Plain lemmas; of no program. -/
import Derived.Test.YtjnaihhkbbeaoaaWords
import Derived.Maps.AppendAt
import Derived.Deep.AppendLies
import Derived.OwnWalk
namespace Go.Proofs.Ytjnaihhkbbeaoaa
open Go.RowKit

/-- How an element stands as cells. -/
structure Elem (α : Type) where
  enc : α → List Value
  sz : Nat
  len : ∀ x, (enc x).length = sz
  one : ∀ x, ∀ u ∈ enc x, u.oneCell' = true
  pos : 0 < sz

def Elem.cells {α : Type} (E : Elem α) (l : List α) : List Value := l.flatMap E.enc

section
variable {α : Type} (E : Elem α)
theorem Elem.cells_length (l : List α) : (E.cells l).length = l.length * E.sz := by
  unfold Elem.cells
  induction l with
  | nil => simp
  | cons x l ih => rw [List.flatMap_cons, List.length_append, ih, E.len, List.length_cons, Nat.add_mul]; omega
theorem Elem.cells_append (l m : List α) : E.cells (l ++ m) = E.cells l ++ E.cells m := by simp [Elem.cells]
theorem Elem.cells_one (x : α) : E.cells [x] = E.enc x := by simp [Elem.cells]
theorem Elem.cells_at {l : List α} {i : Nat} {x : α} (hx : l[i]? = some x) {j : Nat} {u : Value} (hu : (E.enc x)[j]? = some u) : (E.cells l)[i * E.sz + j]? = some u := by
  induction l generalizing i with
  | nil => simp at hx
  | cons y l ih =>
    unfold Elem.cells at ih ⊢
    rw [List.flatMap_cons]
    cases i with
    | zero =>
      simp only [List.getElem?_cons_zero, Option.some.injEq] at hx
      subst hx
      rw [Nat.zero_mul, Nat.zero_add, List.getElem?_append_left (List.getElem?_eq_some_iff.1 hu).1]
      exact hu
    | succ i =>
      rw [List.getElem?_cons_succ] at hx
      rw [List.getElem?_append_right (by rw [E.len, Nat.add_mul]; omega), E.len, show (i + 1) * E.sz + j - E.sz = i * E.sz + j by rw [Nat.add_mul]; omega]
      exact ih hx
theorem Elem.cells_one_cell (l : List α) : ∀ u ∈ E.cells l, u.oneCell' = true := by
  intro u hu
  obtain ⟨x, _, hx⟩ := List.mem_flatMap.1 hu
  exact E.one x u hx
end

/-- The slice value v reads as the list l. -/
def Rd {α : Type} (E : Elem α) (w : World) (v : Value) (l : List α) : Prop :=
  ∃ A c, v = .slice A l.length c ∧ l.length ≤ c ∧ (l ≠ [] → ∃ b off, A = some ⟨b, off, none⟩ ∧ ∀ i x, l[i]? = some x → ∀ j u, (E.enc x)[j]? = some u → w.cell? ⟨b, off + (i * E.sz + j), none⟩ = some u)

/-- The slice value v owns a row, from block base on, whose elements are those of l. -/
def Own {α : Type} (E : Elem α) (e : TypeId) (base : Nat) (w : World) (v : Value) (l : List α) : Prop := w.ownsRow base e E.sz v l.length (E.cells l)

section
variable {α : Type} {E : Elem α} {e : TypeId} {base : Nat} {w w' : World} {v : Value} {l : List α}

theorem Rd.nil (E : Elem α) (w : World) : Rd E w (.slice none 0 0) [] := ⟨none, 0, rfl, Nat.le_refl _, fun h => absurd rfl h⟩
theorem Rd.cell_lt (h : Rd E w v l) {b : Nat} (hb : v.ownBlock = some b) (hl : l ≠ []) : b < w.heap.size := by
  obtain ⟨A, c, rfl, _, h3⟩ := h
  obtain ⟨b', off, rfl, hc⟩ := h3 hl
  simp [Value.ownBlock] at hb
  subst hb
  cases l with
  | nil => exact absurd rfl hl
  | cons x l =>
    have h0 : ∃ u, (E.enc x)[0]? = some u := ⟨_, List.getElem?_eq_getElem (by rw [E.len]; exact E.pos)⟩
    obtain ⟨u, hu⟩ := h0
    exact World.block_lt_of_cell? w _ (hc 0 x rfl 0 u hu)
theorem Rd.keep (h : Rd E w v l) (hk : ∀ b, v.ownBlock = some b → l ≠ [] → w'.heap[b]? = w.heap[b]?) : Rd E w' v l := by
  obtain ⟨A, c, rfl, h2, h3⟩ := h
  refine ⟨A, c, rfl, h2, fun hl => ?_⟩
  obtain ⟨b, off, rfl, hc⟩ := h3 hl
  exact ⟨b, off, rfl, fun i x hx j u hu => (World.cell?_of_block (w := w) (hk b rfl hl)).trans (hc i x hx j u hu)⟩
theorem Rd.fr {S : Nat → Prop} (h : Rd E w v l) (hf : Fr S w w') (hS : ∀ b, v.ownBlock = some b → ¬ S b) : Rd E w' v l :=
  h.keep fun b hb hl => hf.block b (h.cell_lt hb hl) (hS b hb)
theorem Rd.new (h : Rd E w v l) (hf : New w w') : Rd E w' v l := h.fr hf fun _ _ => id
theorem Rd.drew (h : Rd E w v l) : Rd E w.drew v l := h
theorem Rd.alloc (h : Rd E w v l) (o : Obj) : Rd E (w.alloc o) v l := h.new ((New.refl w).alloc o)

theorem Own.nil (E : Elem α) (e : TypeId) (base : Nat) (w : World) : Own E e base w (.slice none 0 0) [] := World.ownsRow_nil w base e E.sz
theorem Own.block (h : Own E e base w v l) {b : Nat} (hb : v.ownBlock = some b) : base ≤ b ∧ b < w.heap.size := h.lt b hb
theorem Own.keep (h : Own E e base w v l) (hk : ∀ b, v.ownBlock = some b → w'.heap[b]? = w.heap[b]?) : Own E e base w' v l := by
  refine ⟨h.1, ?_⟩
  rcases h.2 with hn | ⟨g, cap, cur, rfl, hb, hgg, rest⟩
  · exact .inl hn
  · exact .inr ⟨g, cap, cur, rfl, hb, (hk g rfl).trans hgg, rest⟩
theorem Own.fr {S : Nat → Prop} (h : Own E e base w v l) (hf : Fr S w w') (hS : ∀ b, v.ownBlock = some b → ¬ S b) : Own E e base w' v l :=
  h.keep fun b hb => hf.block b (h.block hb).2 (hS b hb)
theorem Own.new (h : Own E e base w v l) (hf : New w w') : Own E e base w' v l := h.fr hf fun _ _ => id
theorem Own.drew (h : Own E e base w v l) : Own E e base w.drew v l := h
theorem Own.alloc (h : Own E e base w v l) (o : Obj) : Own E e base (w.alloc o) v l := h.new ((New.refl w).alloc o)
theorem Own.mono (h : Own E e base w v l) {b' : Nat} (hb : b' ≤ base) : Own E e b' w v l := by
  refine ⟨h.1, ?_⟩
  rcases h.2 with hn | ⟨g, cap, cur, rfl, hg, rest⟩
  · exact .inl hn
  · exact .inr ⟨g, cap, cur, rfl, Nat.le_trans hb hg, rest⟩
theorem Own.rd (h : Own E e base w v l) : Rd E w v l := by
  have hcells := fun {g : Nat} (hg : v.ownBlock = some g) => World.ownsRow.cells h hg
  rcases h.2 with ⟨rfl, hn⟩ | ⟨g, cap, cur, rfl, _, _, hnc, _⟩
  · have : l = [] := List.eq_nil_of_length_eq_zero hn
    subst this
    exact Rd.nil E w
  · refine ⟨_, cap, rfl, hnc, fun _ => ⟨g, 0, rfl, fun i x hx j u hu => ?_⟩⟩
    have := hcells (g := g) rfl (i * E.sz + j) u (E.cells_at hx hu)
    rw [Addr.add_lit] at this
    exact this
theorem Own.form (h : Own E e base w v l) : ∃ A c, v = .slice A l.length c ∧ l.length ≤ c := by
  obtain ⟨A, c, h1, h2, _⟩ := h.rd
  exact ⟨A, c, h1, h2⟩
/-- A row of another element type lies in another block. -/
theorem Own.blk_ne {g : Nat} {t : TypeId} {cs : Array Value} (h : Own E e base w v l) (hg : Blk w g t cs) (hne : e ≠ t) : v.ownBlock ≠ some g := by
  rcases h.2 with ⟨rfl, _⟩ | ⟨g', cap, cur, rfl, _, hh, _⟩
  · simp [Value.ownBlock]
  · intro he
    have : g' = g := by simpa [Value.ownBlock] using he
    subst this
    exact Blk.ne_ (t := e) hh hg hne rfl
end

/-! append at the operation -/
section
variable {P : Program} {α : Type} {E : Elem α} {e : TypeId} {base : Nat} {w : World} {v : Value} {l : List α}
variable {ops : Array Oper} {rest : List Oper} {o : Oper} {a : Act} {Q : Exit → Act → World → Prop}

/-- append(v, x): one element, which stands in a block of its own. -/
theorem wpList_push (hgd : o.guard = none) (s x : Operand) (t : TypeId) (ho : o.op = .call { callee := .builtin .append, args := #[s, x], argTypes := #[t, t] })
    {i : TypeInfo} {z : Value} {bytes : Nat} (ht : P.underlying t = some (.slice e)) (hi : P.info? e = some i) (hz : i.zero = some z)
    (hsize : i.size = E.sz) (hby : i.bytes = bytes) (hzs : z.cells.size = E.sz)
    (h : Own E e base w v l) (hs : a.eval s = v) (y : α) (g : Nat) (hg : Blk w g e (E.enc y).toArray) (c : Nat) (hx : a.eval x = .slice (some ⟨g, 0, none⟩) 1 c)
    (h63 : l.length + 1 ≤ maxLen) (hbytes : (l.length + 1) * bytes ≤ 140737488355328) (hbase : base ≤ w.heap.size)
    (hK : ∀ v' w', Own E e base w' v' (l ++ [y]) → Fr (fun k => v.ownBlock = some k) w w' → (v'.ownBlock = v.ownBlock ∨ v'.ownBlock = some w.heap.size) → wpList P ops Q rest (a.put o.dst v') w') :
    wpList P ops Q (o :: rest) a w := by
  refine wpList_append_own_at w hgd s x t ho base e i z E.sz bytes ht hi hz hsize hby hzs E.pos v l.length (E.cells l) hs h ⟨g, 0, none⟩ 1 c (E.enc y) hx (by rw [E.len]; omega) (fun j u hu => ?_) (E.one y) h63 hbytes hbase (fun v' w' h1 h2 _ h4 => hK v' w' ?_ (Fr.of_grown h2 fun i hi => hi) h4)
  · rw [Addr.add_lit, hg.cell]
    simpa using hu
  · unfold Own
    rw [E.cells_append, E.cells_one, List.length_append]
    exact h1

theorem run_append_of_nil (base : Nat) (t ty e : TypeId) (i : TypeInfo) (size : Nat) (ht : P.underlying t = some (.slice e)) (hi : P.info? e = some i)
    (v : Value) (n : Nat) (xs : List Value) (hown : w.ownsRow base e size v n xs) (c : Nat) : (Builtin.append_ #[t, t] ty #[v, .slice none 0 c]).run P w = .ok v w := by
  rcases hown.2 with ⟨rfl, rfl⟩ | ⟨g, cap, cur, rfl, _, _, hnc, _⟩
  · simp [Builtin.append_, run_underlying ht, sizeOf, typeInfo, hi, Builtin.lenOf, Builtin.firstCells]
  · simp [Builtin.append_, run_underlying ht, sizeOf, typeInfo, hi, Builtin.lenOf, Builtin.firstCells, hnc, storeCells]

/-- append(v, u...): the source is any slice that reads. -/
theorem run_append_list (t ty : TypeId) {i : TypeInfo} {z : Value} {bytes : Nat} (ht : P.underlying t = some (.slice e)) (hi : P.info? e = some i) (hz : i.zero = some z)
    (hsize : i.size = E.sz) (hby : i.bytes = bytes) (hzs : z.cells.size = E.sz)
    (h : Own E e base w v l) {u : Value} {m : List α} (hu : Rd E w u m)
    (h63 : l.length + m.length ≤ maxLen) (hbytes : (l.length + m.length) * bytes ≤ 140737488355328) (hbase : base ≤ w.heap.size) :
    ∃ v' w', (Builtin.append_ #[t, t] ty #[v, u]).run P w = .ok v' w' ∧ Own E e base w' v' (l ++ m) ∧ Fr (fun k => v.ownBlock = some k) w w' ∧ (v'.ownBlock = v.ownBlock ∨ v'.ownBlock = some w.heap.size) := by
  obtain ⟨A, c, rfl, h2, h3⟩ := hu
  rcases A with _ | ad
  · have hm : m = [] := by
      cases m with
      | nil => rfl
      | cons x m => obtain ⟨b, off, hA, _⟩ := h3 (by simp); cases hA
    subst hm
    exact ⟨v, w, run_append_of_nil base t ty e i E.sz ht hi v l.length (E.cells l) h c, by simpa using h, Fr.refl _ _, .inl rfl⟩
  · have hcells : ∀ j u, (E.cells m)[j]? = some u → w.cell? (ad.add j) = some u := by
      intro j u hj
      have hne : m ≠ [] := by rintro rfl; simp [Elem.cells] at hj
      obtain ⟨b, off, hA, hc⟩ := h3 hne
      injection hA with hA
      subst hA
      have hjl : j < (E.cells m).length := (List.getElem?_eq_some_iff.1 hj).1
      rw [E.cells_length] at hjl
      have hp := E.pos
      have hi : j / E.sz < m.length := Nat.div_lt_of_lt_mul (by rw [Nat.mul_comm]; exact hjl)
      have hx : m[j / E.sz]? = some m[j / E.sz] := List.getElem?_eq_getElem hi
      have hu : ∃ u', (E.enc m[j / E.sz])[j % E.sz]? = some u' := ⟨_, List.getElem?_eq_getElem (by rw [E.len]; exact Nat.mod_lt _ hp)⟩
      obtain ⟨u', hu'⟩ := hu
      have h4 := E.cells_at hx hu'
      rw [Nat.div_add_mod' j E.sz, hj] at h4
      injection h4 with h4
      subst h4
      have h5 := hc _ _ hx _ _ hu'
      rw [Nat.div_add_mod' j E.sz] at h5
      rw [Addr.add_lit]
      exact h5
    obtain ⟨v', w', hr, h4, h5, _, h6⟩ := run_append_own_at (P := P) w base t ty e i z E.sz bytes ht hi hz hsize hby hzs E.pos v l.length (E.cells l) h ad m.length c (E.cells m) (E.cells_length m) hcells (E.cells_one_cell m) h63 hbytes hbase
    refine ⟨v', w', hr, ?_, Fr.of_grown h5 fun i hi => hi, h6⟩
    unfold Own
    rw [E.cells_append, List.length_append]
    exact h4

theorem wpList_append (hgd : o.guard = none) (s x : Operand) (t : TypeId) (ho : o.op = .call { callee := .builtin .append, args := #[s, x], argTypes := #[t, t] })
    {i : TypeInfo} {z : Value} {bytes : Nat} (ht : P.underlying t = some (.slice e)) (hi : P.info? e = some i) (hz : i.zero = some z)
    (hsize : i.size = E.sz) (hby : i.bytes = bytes) (hzs : z.cells.size = E.sz)
    (h : Own E e base w v l) (hs : a.eval s = v) {u : Value} {m : List α} (hu : Rd E w u m) (hx : a.eval x = u)
    (h63 : l.length + m.length ≤ maxLen) (hbytes : (l.length + m.length) * bytes ≤ 140737488355328) (hbase : base ≤ w.heap.size)
    (hK : ∀ v' w', Own E e base w' v' (l ++ m) → Fr (fun k => v.ownBlock = some k) w w' → (v'.ownBlock = v.ownBlock ∨ v'.ownBlock = some w.heap.size) → wpList P ops Q rest (a.put o.dst v') w') :
    wpList P ops Q (o :: rest) a w := by
  obtain ⟨v', w', hr, h1, h2, h3⟩ := run_append_list (P := P) t o.type ht hi hz hsize hby hzs h hu h63 hbytes hbase
  refine wpList_plain hgd fun K' hK' => ?_
  unfold Oper.wp execOp
  simp only [ho, resolve, invoke, builtin, Sem.run_bind, Sem.run_pure, Result.andThen_ok, List.map_toArray, List.map_cons, List.map_nil, hs, hx, hr]
  exact hK' _ _ (hK v' w' h1 h2 h3)
end

/-- Two rows apart stay apart while one of them is appended to: the one that is not. -/
theorem Own.apart {α β : Type} {E : Elem α} {E' : Elem β} {e e' : TypeId} {base base' : Nat} {w w2 : World} {vy vn v2 : Value} {l : List α} {m : List β} (hy : Own E e base w vy l) (_hn : Own E' e' base' w vn m)
    (hd : vy.ownBlock = none ∨ vy.ownBlock ≠ vn.ownBlock) (hf : Fr (fun k => vn.ownBlock = some k) w w2) (hl : v2.ownBlock = vn.ownBlock ∨ v2.ownBlock = some w.heap.size) :
    Own E e base w2 vy l ∧ (vy.ownBlock = none ∨ vy.ownBlock ≠ v2.ownBlock) := by
  refine ⟨hy.fr hf fun b hb hs => ?_, ?_⟩
  · rcases hd with hd | hd
    · rw [hd] at hb; cases hb
    · exact hd (hb.trans hs.symm)
  · rcases hd with hd | hd
    · exact .inl hd
    · rcases hl with hl | hl
      · rw [hl]; exact .inr hd
      · rw [hl]
        cases hy' : vy.ownBlock with
        | none => exact .inl rfl
        | some b =>
          refine .inr fun he => ?_
          injection he with he
          have := (hy.block hy').2
          omega
/-- .. seen from the one that is appended to. -/
theorem apart_symm {a b : Option Nat} (h : a = none ∨ a ≠ b) : b = none ∨ b ≠ a := by
  rcases h with h | h
  · subst h
    cases b with
    | none => exact .inl rfl
    | some x => exact .inr (by simp)
  · exact .inr h.symm
/-- Behind an append to a row from block base on, nothing below base has turned. -/
theorem New.append {α : Type} {E : Elem α} {e : TypeId} {a b c : World} {v : Value} {l : List α} (h : New a b) (hv : Own E e a.heap.size b v l) (hf : Fr (fun k => v.ownBlock = some k) b c) : New a c :=
  Fr.trans' h hf fun i hi hs => by have := (hv.block hs).1; omega

theorem Blk.new1 (w : World) (o : Obj) (t : TypeId) (cs : Array Value) : Blk ((w.alloc o).alloc (.cells cs t)) (w.heap.size + 1) t cs := by
  have h := Blk.new (w.alloc o) t cs
  rwa [World.size_alloc] at h
theorem Blk.new2 (w : World) (o o' : Obj) (t : TypeId) (cs : Array Value) : Blk (((w.alloc o).alloc o').alloc (.cells cs t)) (w.heap.size + 2) t cs := by
  have h := Blk.new1 (w.alloc o) o' t cs
  rwa [World.size_alloc] at h

/-- Elements of one cell. -/
def Elem.one1 {α : Type} (enc : α → Value) (h : ∀ x, (enc x).oneCell' = true) : Elem α where
  enc x := [enc x]
  sz := 1
  len _ := rfl
  one x u hu := by rw [List.mem_singleton.1 hu]; exact h x
  pos := Nat.one_pos

end Go.Proofs.Ytjnaihhkbbeaoaa
