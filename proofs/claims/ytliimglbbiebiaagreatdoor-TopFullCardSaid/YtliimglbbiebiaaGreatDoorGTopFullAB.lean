/- A part of the proof: OwnMore, Msg, Maps, Tbl, Mu, Do. -/
import Derived.Test.YtliimglbbiebiaaGreatDoorGTopFullAA
import Derived.Laws.Rows
import Derived.WalkKit
import Derived.WalkSpells
import Derived.WalkLawsBesides
import Derived.Deep.QuietTactic
import Derived.BigQuiet
import Derived.Lib.Hide
import Derived.Lib.SliceRun
import Derived.Maps.Own
import Derived.Maps.OwnOps
import Derived.Maps.OwnSet
import Derived.Test.YtliimglbbiebiaaGreatDoorRows
import Derived.Conc.MuLone
import Derived.Defers

section
/- Owned rows of elements of several cells: a store into one cell, what a cell reads as. Plain lemmas; of no program. -/
namespace Go.Proofs.YtliimglbbiebiaaGreatDoor
open Go.RowKit

theorem take_snoc {α : Type} {l : List α} {k : Nat} {x : α} (h : l[k]? = some x) : l.take (k + 1) = l.take k ++ [x] := by
  have hk : k < l.length := (List.getElem?_eq_some_iff.1 h).1
  rw [List.take_succ_eq_append_getElem hk, (List.getElem?_eq_some_iff.1 h).2]
theorem filter_snoc {α : Type} {l : List α} {k : Nat} {x : α} (p : α → Bool) (h : l[k]? = some x) : (l.take (k + 1)).filter p = (l.take k).filter p ++ (if p x then [x] else []) := by
  rw [take_snoc h, List.filter_append]
  cases hp : p x <;> simp [hp]

theorem Elem.cells_set {α : Type} (E : Elem α) {l : List α} {k : Nat} {x y : α} (hx : l[k]? = some x) {j : Nat} {u : Value} (hj : j < E.sz) (hy : E.enc y = (E.enc x).set j u) : (E.cells l).set (k * E.sz + j) u = E.cells (l.set k y) := by
  induction l generalizing k with
  | nil => simp at hx
  | cons a l ih =>
    unfold Elem.cells at ih ⊢
    rw [List.flatMap_cons]
    cases k with
    | zero =>
      simp only [List.getElem?_cons_zero, Option.some.injEq] at hx
      subst hx
      rw [Nat.zero_mul, Nat.zero_add, List.set_append, if_pos (by rw [E.len]; exact hj), List.set_cons_zero, List.flatMap_cons, hy]
    | succ k =>
      rw [List.getElem?_cons_succ] at hx
      rw [List.set_append, if_neg (by rw [E.len, Nat.add_mul]; omega), E.len, show (k + 1) * E.sz + j - E.sz = k * E.sz + j by rw [Nat.add_mul]; omega, ih hx, List.set_cons_succ, List.flatMap_cons]

/-- A store into a cell of an owned row. -/
theorem Own.stored {α : Type} {E : Elem α} {e : TypeId} {base : Nat} {w : World} {g n c : Nat} {l : List α} (h : Own E e base w (.slice (some ⟨g, 0, none⟩) n c) l) {k : Nat} {x y : α} (hx : l[k]? = some x) {j : Nat} {u : Value}
    (hj : j < E.sz) (hy : E.enc y = (E.enc x).set j u) : Own E e base (w.setCell ⟨g, k * E.sz + j, none⟩ u) (.slice (some ⟨g, 0, none⟩) n c) (l.set k y) := by
  obtain ⟨A, c', he, _⟩ := Own.form h
  injection he with h1 h2 h3
  subst h2
  unfold Own at h ⊢
  have h2 := (h.stored (k * E.sz + j) u).1
  rw [E.cells_set hx hj hy] at h2
  rw [List.length_set]
  exact h2

theorem Own.some_ {α : Type} {E : Elem α} {e : TypeId} {base : Nat} {w : World} {A : Option Addr} {n c : Nat} {l : List α} (h : Own E e base w (.slice A n c) l) (hl : 0 < n) : ∃ g, A = some ⟨g, 0, none⟩ := by
  rcases h.2 with ⟨h1, _⟩ | ⟨g, _, _, h1, _⟩
  · injection h1 with _ h2; omega
  · injection h1 with h2; exact ⟨g, h2⟩
theorem Own.cell_at {α : Type} {E : Elem α} {e : TypeId} {base : Nat} {w : World} {g n c : Nat} {l : List α} (h : Own E e base w (.slice (some ⟨g, 0, none⟩) n c) l) {k : Nat} {x : α} (hx : l[k]? = some x) {j : Nat} {u : Value} (hu : (E.enc x)[j]? = some u) :
    w.cell? ⟨g, k * E.sz + j, none⟩ = some u := by
  have := World.ownsRow.cells h (g := g) rfl _ _ (E.cells_at hx hu)
  rwa [Addr.add_lit, Nat.zero_add] at this
theorem Own.frozen {α : Type} {E : Elem α} {e : TypeId} {base : Nat} {w : World} {g n c : Nat} {l : List α} (h : Own E e base w (.slice (some ⟨g, 0, none⟩) n c) l) (j : Nat) : w.frozen? ⟨g, j, none⟩ = false := by
  obtain ⟨A, c', he, _⟩ := Own.form h
  injection he with h1 h2 h3
  subst h2
  exact World.ownsRow.frozenAt h j
/-- The block that a row lies in. -/
theorem Own.heap {α : Type} {E : Elem α} {e : TypeId} {base : Nat} {w : World} {v : Value} {l : List α} (h : Own E e base w v l) {g : Nat} (hg : v.ownBlock = some g) : ∃ cs, Blk w g e cs := by
  rcases h.2 with ⟨rfl, _⟩ | ⟨g', cap, cur, rfl, _, hh, _⟩
  · cases hg
  · cases hg; exact ⟨cur, hh⟩

/-- Two results that stand in cells. -/
theorem results_cells {P : Program} {fn : Func} {p q : Tmp} {t u : TypeId} (h : fn.results = #[.cell p t, .cell q u]) (tmps : Array Value) (w : World) {a b : Addr} {v v' : Value}
    (hp : tmps[p]? = some (.pointer (some a))) (hq : tmps[q]? = some (.pointer (some b))) (hv : (loadVar t a).run P w = .ok v w) (hv' : (loadVar u b).run P w = .ok v' w) :
    (results fn tmps).run P w = .ok (.tuple #[v, v']) w := by
  simp [results, h, hp, hq, asAddr, hv, hv']
/-- A cell of a type of one cell. -/
theorem run_loadVar_one {P : Program} {t : TypeId} {d : TypeDesc} (hu : P.underlying t = some d) (hd : (match d with | .struct _ | .array _ _ => true | _ => false) = false) {w : World} {a : Addr} {v : Value} (hc : w.cell? a = some v) : (loadVar t a).run P w = .ok v w := by
  have hagg : (isAgg t).run P w = .ok false w := by
    unfold isAgg
    rw [Sem.run_bind, run_underlying hu w]
    cases d <;> simp_all
  simp [loadVar, Sem.run_bind, hagg, hc]

end Go.Proofs.YtliimglbbiebiaaGreatDoor
end

section
/- A message in cells; clone. -/
namespace Go.Proofs.YtliimglbbiebiaaGreatDoor
open Go.RowKit

/-- A message, and where its body stands. -/
structure MB where
  m : Msg
  A : Option Addr
  n : Nat
  c : Nat

def MB.bv (x : MB) : Value := .slice x.A x.n x.c
def MB.val (x : MB) : Value := .agg #[.int .u32 x.m.uid, .int .u8 x.m.fl, .slice x.A x.n x.c]
def mbE : Elem MB where
  enc x := [.int .u32 x.m.uid, .int .u8 x.m.fl, .slice x.A x.n x.c]
  sz := 3
  len _ := rfl
  one x u hu := by simp at hu; rcases hu with rfl | rfl | rfl <;> rfl
  pos := by omega

theorem msg_info : (Tryz.prog.info? 238).map (fun i => (i.zero, i.size, i.bytes)) = some (some (.agg #[.int .u32 0, .int .u8 0, .slice none 0 0]), 3, 32) := by kernel_rfl
theorem u8_info : (Tryz.prog.info? 5).map (fun i => (i.zero, i.size, i.bytes)) = some (some (.int .u8 0), 1, 1) := by kernel_rfl
theorem zeroMsg (w : World) : (zeroValue 238).run Tryz.prog w = .ok (.agg #[.int .u32 0, .int .u8 0, .slice none 0 0]) w := by kernel_rfl

/-! clone -/
set_option maxHeartbeats 1600000 in
theorem bclone_any (v : Value) (l : List Int) (w : World) (hv : Rd (intE .u8) w v l) (hl : l.length ≤ 100000) :
    Calls Tryz.prog 75 #[v] w fun e w' => ∃ o, e = .returned o ∧ Own (intE .u8) 5 w.heap.size w' o l ∧ New w w' := by
  obtain ⟨i0, hi, hz0, hz1, hz2⟩ := info_parts u8_info
  have h0 := Own.iempty .u8 5 w.heap.size w (Nat.le_refl _)
  have HV := Lib.hid hv
  obtain ⟨A, c, rfl, hc, hcells⟩ := hv
  have hq := fun n => Lib.run_eql_slice_nil (P := Tryz.prog) w 23 _ A n c 0 0 Tryz.underlying23
  cases A with
  | none =>
    have hn : l = [] := by
      cases l with
      | nil => rfl
      | cons x l => obtain ⟨b, off, h, _⟩ := hcells (by simp); cases h
    clear hcells
    subst hn
    simp only [Option.isNone_none] at hq
    go_enter Tryz.func75, Tryz.ntmps75
    go_wp2
    go_ret
    exact ⟨_, rfl, Own.nil _ _ _ _, New.refl _⟩
  | some ad =>
    obtain ⟨b, off, sp⟩ := ad
    clear hcells
    simp only [Option.isNone_some] at hq
    go_enter Tryz.func75, Tryz.ntmps75
    go_wp2_with (at_builtin; refine wpList_append (E := intE .u8) rfl _ _ _ rfl Tryz.underlying23 hi hz0 hz1 hz2 rfl h0 rfl (HV.out.alloc _) rfl (by unfold maxLen; simp; omega) (by simp; omega) (by simp) ?_; intro v1 w1 hv1 hf1 hl1)
    have hn1 : New w w1 := New.append ((New.refl w).alloc _) h0 hf1
    rw [List.nil_append] at hv1
    go_ret
    exact ⟨_, rfl, hv1, hn1⟩

set_option maxRecDepth 100000 in
set_option maxHeartbeats 1600000 in
theorem mclone_any (x : MB) (w : World) (hv : Rd (intE .u8) w x.bv x.m.body) (hl : x.m.body.length ≤ 100000) :
    Calls Tryz.prog 240 #[x.val] w fun e w' => ∃ y : MB, e = .returned y.val ∧ y.m = x.m ∧ Own (intE .u8) 5 w.heap.size w' y.bv y.m.body ∧ New w w' := by
  obtain ⟨⟨uid, fl, body⟩, A, n, c⟩ := x
  simp only [MB.bv, MB.val] at hv hl ⊢
  have b1 : Blk ((w.alloc (.cells #[.int .u32 uid, .int .u8 fl, .slice A n c] 238)).alloc (.cells #[.int .u32 0, .int .u8 0, .slice none 0 0] 238)) w.heap.size 238 #[.int .u32 uid, .int .u8 fl, .slice A n c] := (Blk.new _ _ _).alloc _
  have b2 : Blk ((w.alloc (.cells #[.int .u32 uid, .int .u8 fl, .slice A n c] 238)).alloc (.cells #[.int .u32 0, .int .u8 0, .slice none 0 0] 238)) (w.heap.size + 1) 238 #[.int .u32 0, .int .u8 0, .slice none 0 0] := Blk.new1 _ _ _ _
  have hn1 : New w ((w.alloc (.cells #[.int .u32 uid, .int .u8 fl, .slice A n c] 238)).alloc (.cells #[.int .u32 0, .int .u8 0, .slice none 0 0] 238)) := ((New.refl w).alloc _).alloc _
  have HV := Lib.hid (hv.new hn1)
  clear hv
  go_enter Tryz.func240, Tryz.ntmps240
  go_wp2_with fail
  refine (bclone_any _ body _ HV.out hl).mono ?_
  rintro e w2 ⟨o, rfl, ho, hn2⟩
  obtain ⟨B, n', c', rfl⟩ := own_shape ho
  have e1 := hn2.blk b1
  have e2 := hn2.blk b2
  have q0 : w2.cell? ⟨w.heap.size, 0, none⟩ = some (.int .u32 uid) := e1.cell 0
  have q1 : w2.cell? ⟨w.heap.size, 1, none⟩ = some (.int .u8 fl) := e1.cell 1
  have q2 : w2.cell? ⟨w.heap.size, 2, none⟩ = some (.slice A n c) := e1.cell 2
  have f2 : w2.frozen? ⟨w.heap.size, 2, none⟩ = false := e1.frozen 2
  have p0 : w2.cell? ⟨w.heap.size + 1, 0, none⟩ = some (.int .u32 0) := e2.cell 0
  have p1 : w2.cell? ⟨w.heap.size + 1, 1, none⟩ = some (.int .u8 0) := e2.cell 1
  have p2 : w2.cell? ⟨w.heap.size + 1, 2, none⟩ = some (.slice none 0 0) := e2.cell 2
  have g0 : w2.frozen? ⟨w.heap.size + 1, 0, none⟩ = false := e2.frozen 0
  have g1 : w2.frozen? ⟨w.heap.size + 1, 1, none⟩ = false := e2.frozen 1
  have g2 : w2.frozen? ⟨w.heap.size + 1, 2, none⟩ = false := e2.frozen 2
  go_wp2
  have e3 : Blk ((((w2.setCell ⟨w.heap.size, 2, none⟩ (.slice B n' c')).setCell ⟨w.heap.size + 1, 0, none⟩ (.int .u32 uid)).setCell ⟨w.heap.size + 1, 1, none⟩ (.int .u8 fl)).setCell ⟨w.heap.size + 1, 2, none⟩ (.slice B n' c')) (w.heap.size + 1) 238 #[.int .u32 uid, .int .u8 fl, .slice B n' c'] :=
    (((e2.far (by simp) _).set_ 0 _).set_ 1 _).set_ 2 _
  have hn3 : Fr (fun k => k = w.heap.size ∨ k = w.heap.size + 1) w2 ((((w2.setCell ⟨w.heap.size, 2, none⟩ (.slice B n' c')).setCell ⟨w.heap.size + 1, 0, none⟩ (.int .u32 uid)).setCell ⟨w.heap.size + 1, 1, none⟩ (.int .u8 fl)).setCell ⟨w.heap.size + 1, 2, none⟩ (.slice B n' c')) :=
    ((((Fr.refl _ _).setCell (fun _ => .inl rfl) _).setCell (fun _ => .inr rfl) _).setCell (fun _ => .inr rfl) _).setCell (fun _ => .inr rfl) _
  refine bodyPost_ret (results_cell_row rfl _ _ _ _ _ _ _ rfl e3 Tryz.underlying238 rfl (by kernel_rfl)) rfl ?_
  refine ⟨⟨⟨uid, fl, body⟩, B, n', c'⟩, rfl, rfl, ?_, New.two (hn1.trans hn2) hn3 fun i hi => by rcases hi with rfl | rfl <;> omega⟩
  have hlo := fun b hb => (ho.block (b := b) hb).1
  refine (ho.fr hn3 fun b hb hs => ?_).mono (by simp; omega)
  have := hlo b hb
  simp at this
  rcases hs with rfl | rfl <;> omega

end Go.Proofs.YtliimglbbiebiaaGreatDoor
end

section
/- Maps of whatever element type, said as a list of keys and values: look-up, store, delete, len, over the kit's laws on a map's block. Plain lemmas; of no program. -/
namespace Go.Proofs.YtliimglbbiebiaaGreatDoor
open Go.RowKit Go.Maps

/-- How the keys of a map type stand as values and as closed data. -/
structure KeyEnc (P : Program) (K : TypeId) (α : Type) where
  law : Keyed P K
  kv : α → Value
  kl : α → Lit
  ok : α → Prop
  key : ∀ a, ok a → keyOf P K (kv a) = some (kl a)
  inj : ∀ a b, kv a = kv b → a = b

section
variable {P : Program} {K : TypeId} {α : Type} (E : KeyEnc P K α)
theorem KeyEnc.isKey {a : α} (h : E.ok a) : WideAt.IsKeyLit (E.kl a) := E.law.key (E.key a h)
theorem KeyEnc.ne {a b : α} (ha : E.ok a) (hb : E.ok b) (h : a ≠ b) : E.kl a ≠ E.kl b := fun e => h (E.inj a b (E.law.inj (E.key a ha) (by rw [e]; exact E.key b hb)))
end

/-- An element is told as itself. -/
def R0 (v : Value) : Option (DataW Value × List MemPlace) := some (.held v, [])

section
variable {α : Type} [DecidableEq α]
def get (l : List (α × Value)) (a : α) : Option Value := (l.find? fun p => decide (p.1 = a)).map Prod.snd
def del (l : List (α × Value)) (a : α) : List (α × Value) := l.filter fun p => decide (p.1 ≠ a)
def put (l : List (α × Value)) (a : α) (v : Value) : List (α × Value) := (a, v) :: del l a

theorem get_nil (a : α) : get [] a = none := rfl
theorem get_cons (p : α × Value) (l : List (α × Value)) (a : α) : get (p :: l) a = if p.1 = a then some p.2 else get l a := by
  unfold get
  rw [List.find?_cons]
  by_cases h : p.1 = a <;> simp [h]
theorem get_del_same (l : List (α × Value)) (a : α) : get (del l a) a = none := by
  unfold get del
  rw [Option.map_eq_none_iff, List.find?_eq_none]
  intro p hp
  have := (List.mem_filter.1 hp).2
  simpa using this
theorem get_del_other (l : List (α × Value)) {a b : α} (h : b ≠ a) : get (del l a) b = get l b := by
  induction l with
  | nil => rfl
  | cons p l ih =>
    unfold del at ih ⊢
    rw [List.filter_cons]
    by_cases hp : p.1 = a
    · rw [if_neg (by simpa using hp), ih, get_cons, if_neg (by rw [hp]; exact fun e => h e.symm)]
    · rw [if_pos (by simpa using hp), get_cons, get_cons, ih]
theorem get_put_same (l : List (α × Value)) (a : α) (v : Value) : get (put l a v) a = some v := by unfold put; rw [get_cons, if_pos rfl]
theorem get_put_other (l : List (α × Value)) {a b : α} (v : Value) (h : b ≠ a) : get (put l a v) b = get l b := by
  unfold put
  rw [get_cons, if_neg (fun e => h e.symm), get_del_other l h]
theorem mem_of_get {l : List (α × Value)} {a : α} {v : Value} (h : get l a = some v) : (a, v) ∈ l := by
  unfold get at h
  obtain ⟨p, hp, rfl⟩ := Option.map_eq_some_iff.1 h
  have h1 := List.find?_some hp
  have h2 := List.mem_of_find?_eq_some hp
  obtain rfl : p.1 = a := by simpa using h1
  exact h2
theorem get_of_mem {l : List (α × Value)} (hnd : (l.map Prod.fst).Nodup) {a : α} {v : Value} (h : (a, v) ∈ l) : get l a = some v := by
  induction l with
  | nil => cases h
  | cons p l ih =>
    rw [List.map_cons, List.nodup_cons] at hnd
    rw [get_cons]
    rcases List.mem_cons.1 h with rfl | h'
    · rw [if_pos rfl]
    · rw [if_neg (fun e => hnd.1 (by rw [e]; exact List.mem_map.2 ⟨(a, v), h', rfl⟩)), ih hnd.2 h']
theorem get_none_iff {l : List (α × Value)} {a : α} : get l a = none ↔ a ∉ l.map Prod.fst := by
  unfold get
  rw [Option.map_eq_none_iff, List.find?_eq_none]
  constructor
  · intro h hm
    obtain ⟨p, hp, rfl⟩ := List.mem_map.1 hm
    exact h p hp (by simp)
  · intro h p hp e
    exact h (List.mem_map.2 ⟨p, hp, by simpa using e⟩)
theorem del_nodup {l : List (α × Value)} (hnd : (l.map Prod.fst).Nodup) (a : α) : ((del l a).map Prod.fst).Nodup :=
  hnd.sublist (List.Sublist.map _ List.filter_sublist)
theorem put_nodup {l : List (α × Value)} (hnd : (l.map Prod.fst).Nodup) (a : α) (v : Value) : ((put l a v).map Prod.fst).Nodup := by
  unfold put
  rw [List.map_cons, List.nodup_cons]
  exact ⟨get_none_iff.1 (get_del_same l a), del_nodup hnd a⟩
theorem del_length {l : List (α × Value)} (hnd : (l.map Prod.fst).Nodup) (a : α) : (del l a).length + (if (get l a).isSome then 1 else 0) = l.length := by
  induction l with
  | nil => rfl
  | cons p l ih =>
    rw [List.map_cons, List.nodup_cons] at hnd
    have ih := ih hnd.2
    rw [get_cons]
    unfold del at ih ⊢
    rw [List.filter_cons]
    by_cases hp : p.1 = a
    · have hn : get l a = none := get_none_iff.2 (by rw [← hp]; exact hnd.1)
      rw [if_neg (by simpa using hp), if_pos hp]
      rw [hn] at ih
      simp at ih ⊢
      omega
    · rw [if_pos (by simpa using hp), if_neg hp]
      simp only [List.length_cons]
      omega
end

/-- Block b is a map that holds just the keys and values of l. -/
structure HasMap {P : Program} {K : TypeId} {α : Type} [DecidableEq α] (E : KeyEnc P K α) (w : World) (b : Nat) (l : List (α × Value)) : Prop where
  nd : (l.map Prod.fst).Nodup
  oks : ∀ p ∈ l, E.ok p.1
  own : ∃ D : DataW Value, w.ownsMap P K R0 b l.length D ∧ Maps.size D = l.length ∧ ∀ a, E.ok a → ∀ z, D.atKey (E.kl a) z = match get l a with | some v => .held v | none => z

section
variable {P : Program} {K : TypeId} {α : Type} [DecidableEq α] {E : KeyEnc P K α} {w w' : World} {b : Nat} {l : List (α × Value)}

theorem HasMap.lt (h : HasMap E w b l) : b < w.heap.size := by
  obtain ⟨D, h1, _⟩ := h.own
  exact h1.lt
theorem HasMap.made (E : KeyEnc P K α) (w : World) : HasMap E (w.alloc (.map #[] 0)) w.heap.size [] :=
  ⟨by simp, by simp, .map [], World.ownsMap_made w P K R0, rfl, fun _ _ _ => rfl⟩
theorem HasMap.of_block (h : HasMap E w b l) (hb : w'.heap[b]? = w.heap[b]?) : HasMap E w' b l := by
  obtain ⟨D, ⟨es, clock, h1, h2⟩, h3⟩ := h.own
  exact ⟨h.nd, h.oks, D, ⟨es, clock, hb.trans h1, h2⟩, h3⟩
theorem HasMap.fr {S : Nat → Prop} (h : HasMap E w b l) (hf : Fr S w w') (hb : ¬ S b) : HasMap E w' b l := h.of_block (hf.block b h.lt hb)
theorem HasMap.drew (h : HasMap E w b l) : HasMap E w.drew b l := h.of_block rfl
theorem HasMap.alloc (h : HasMap E w b l) (o : Obj) : HasMap E (w.alloc o) b l := h.of_block (Below.heap_alloc w o b h.lt)
theorem HasMap.setCell (h : HasMap E w b l) {a : Addr} (ha : b ≠ a.block) (u : Value) : HasMap E (w.setCell a u) b l := h.of_block (Below.heap_setCell w a u b ha)

theorem ownsMap_size {R : Value → Option (DataW Value × List MemPlace)} {n : Nat} {D : DataW Value} (h : w.ownsMap P K R b n D) : w.ownsMap P K R b (Maps.size D) D := by
  obtain ⟨es, clock, h1, h2, _, h4⟩ := h
  refine ⟨es, clock, h1, h2, ?_, h4⟩
  rw [h4]
  simp [Maps.size, length_sorted]

theorem has_of {D : DataW Value} {o : Option Value} {kl : Lit} (h : ∀ z, D.atKey kl z = match o with | some v => .held v | none => z) : Maps.has D kl = o.isSome := by
  cases o with
  | none => exact Maps.has_false_of_atKey h
  | some v => exact Maps.has_true_of_atKey h

theorem HasMap.run_look {t e : TypeId} (h : HasMap E w b l) (ht : P.underlying t = some (.map K e)) {z : Value} (hz : (zeroValue e).run P w = .ok z w) {k : α} (hk : E.ok k) :
    (Instr.lookup t (.map (some b)) (E.kv k) false).run P w = .ok ((get l k).getD z) w := by
  obtain ⟨D, h1, _, h3⟩ := h.own
  obtain ⟨v, ps, hr, hv⟩ := h1.lookup E.law ht hz (zd := .held z) (zp := []) rfl (E.key k hk)
  rw [hr]
  simp only [R0, Option.some.injEq, Prod.mk.injEq] at hv
  have h4 := hv.1
  rw [h3 k hk] at h4
  cases hg : get l k with
  | none => rw [hg] at h4; injection h4 with h4; rw [h4]; rfl
  | some u => rw [hg] at h4; injection h4 with h4; rw [h4]; rfl

theorem HasMap.run_look_ok {t e : TypeId} (h : HasMap E w b l) (ht : P.underlying t = some (.map K e)) {z : Value} (hz : (zeroValue e).run P w = .ok z w) {k : α} (hk : E.ok k) :
    (Instr.lookup t (.map (some b)) (E.kv k) true).run P w = .ok (.tuple #[(get l k).getD z, .bool (get l k).isSome]) w := by
  obtain ⟨D, h1, _, h3⟩ := h.own
  obtain ⟨v, ps, hr, hv⟩ := h1.look_ok E.law ht hz (zd := .held z) (zp := []) rfl (E.key k hk)
  rw [hr, has_of (h3 k hk)]
  simp only [R0, Option.some.injEq, Prod.mk.injEq] at hv
  have h4 := hv.1
  rw [h3 k hk] at h4
  cases hg : get l k with
  | none => rw [hg] at h4; injection h4 with h4; rw [h4]; rfl
  | some u => rw [hg] at h4; injection h4 with h4; rw [h4]; rfl

theorem HasMap.run_put {t e : TypeId} (h : HasMap E w b l) (ht : P.underlying t = some (.map K e)) (hn : l.length < maxLen) {k : α} (hk : E.ok k) (v : Value) :
    ∃ w', (Instr.mapUpdate t (.map (some b)) (E.kv k) v).run P w = .ok () w' ∧ HasMap E w' b (put l k v) ∧ One b w w' := by
  obtain ⟨D, h1, h2, h3⟩ := h.own
  obtain ⟨w', hr, h4, h5⟩ := h1.update E.law ht hn (E.key k hk) (val := v) (d := .held v) (ps := []) rfl
  have hsz : Maps.size (D.put (E.kl k) (.held v)) = (put l k v).length := by
    rw [Maps.size_put (h1.tidy E.law), has_of (h3 k hk), h2]
    have := del_length h.nd k
    unfold put
    rw [List.length_cons]
    split at this <;> rename_i hh
    · rw [if_pos hh]; omega
    · rw [if_neg hh]; omega
  have h6 := ownsMap_size h4
  rw [hsz] at h6
  refine ⟨w', hr, ⟨put_nodup h.nd k v, fun p hp => ?_, _, h6, hsz, fun a ha z => ?_⟩, Fr.of_grown h5 fun i hi => by cases hi; rfl⟩
  · rcases List.mem_cons.1 hp with rfl | hp
    · exact hk
    · exact h.oks p (List.mem_filter.1 hp).1
  · by_cases hak : a = k
    · subst hak
      rw [get_put_same, Maps.atKey_put_same h1.isMap (E.isKey hk)]
    · rw [get_put_other l v hak, Maps.atKey_put_other (E.ne ha hk hak), h3 a ha]

theorem HasMap.run_del {t e : TypeId} (h : HasMap E w b l) (ht : P.underlying t = some (.map K e)) {k : α} (hk : E.ok k) (ty : TypeId) :
    ∃ w', (Builtin.delete_ #[t, K] ty #[.map (some b), E.kv k]).run P w = .ok (.tuple #[]) w' ∧ HasMap E w' b (del l k) ∧ One b w w' := by
  obtain ⟨D, h1, h2, h3⟩ := h.own
  obtain ⟨w', hr, h4, h5⟩ := h1.drop E.law ht (E.key k hk) ty
  have hsz : Maps.size (D.del (E.kl k)) = (del l k).length := by
    have h7 := Maps.size_del (k := E.kl k) (h1.tidy E.law)
    rw [has_of (h3 k hk), h2] at h7
    have := del_length h.nd k
    split at this <;> rename_i hh
    · rw [if_pos hh] at h7; omega
    · rw [if_neg hh] at h7; omega
  have h6 := ownsMap_size h4
  rw [hsz] at h6
  refine ⟨w', hr, ⟨del_nodup h.nd k, fun p hp => h.oks p (List.mem_filter.1 hp).1, _, h6, hsz, fun a ha z => ?_⟩, Fr.of_grown h5.grown fun i hi => by cases hi; rfl⟩
  by_cases hak : a = k
  · subst hak
    rw [get_del_same, Maps.atKey_del_same]
  · rw [get_del_other l hak, Maps.atKey_del_other (E.ne ha hk hak), h3 a ha]

theorem HasMap.run_len {t e : TypeId} (h : HasMap E w b l) (ht : P.underlying t = some (.map K e)) (ty : TypeId) : (Builtin.len_ #[t] ty #[.map (some b)]).run P w = .ok (.int .i64 l.length) w := by
  obtain ⟨D, h1, h2, _⟩ := h.own
  rw [h1.len ht ty, h2]
end

/-! at the operation, for the walk -/
section
variable {P : Program} {K : TypeId} {α : Type} [DecidableEq α] {E : KeyEnc P K α} {w : World} {b : Nat} {l : List (α × Value)}
variable {ops : Array Oper} {rest : List Oper} {o : Oper} {a : Act} {Q : Exit → Act → World → Prop}

theorem wpList_look (hg : o.guard = none) (m x : Operand) (t e : TypeId) (hop : o.op = Op.lookup t m x false) (ht : P.underlying t = some (.map K e)) {z : Value} (hz : (zeroValue e).run P w = .ok z w)
    (h : HasMap E w b l) (k : α) (hk : E.ok k) (hm : a.eval m = .map (some b)) (hx : a.eval x = E.kv k)
    (hK : wpList P ops Q rest (a.put o.dst ((get l k).getD z)) w) : wpList P ops Q (o :: rest) a w := by
  refine wpList_plain hg fun K' hK' => ?_
  unfold Oper.wp
  simp [execOp, hop, hm, hx, h.run_look ht hz hk, Result.andThen]
  exact hK' _ _ hK

theorem wpList_look_ok (hg : o.guard = none) (m x : Operand) (t e : TypeId) (hop : o.op = Op.lookup t m x true) (ht : P.underlying t = some (.map K e)) {z : Value} (hz : (zeroValue e).run P w = .ok z w)
    (h : HasMap E w b l) (k : α) (hk : E.ok k) (hm : a.eval m = .map (some b)) (hx : a.eval x = E.kv k)
    (hK : wpList P ops Q rest (a.put o.dst (.tuple #[(get l k).getD z, .bool (get l k).isSome])) w) : wpList P ops Q (o :: rest) a w := by
  refine wpList_plain hg fun K' hK' => ?_
  unfold Oper.wp
  simp only [execOp, hop, hm, hx]
  simp [h.run_look_ok ht hz hk, Result.andThen]
  exact hK' _ _ hK

theorem wpList_put (hg : o.guard = none) (m x v : Operand) (t e : TypeId) (hop : o.op = Op.mapUpdate t m x v) (ht : P.underlying t = some (.map K e))
    (h : HasMap E w b l) (hn : l.length < maxLen) (k : α) (hk : E.ok k) (u : Value) (hm : a.eval m = .map (some b)) (hx : a.eval x = E.kv k) (hv : a.eval v = u)
    (hK : ∀ w', HasMap E w' b (put l k u) → One b w w' → wpList P ops Q rest (a.put o.dst undef) w') : wpList P ops Q (o :: rest) a w := by
  refine wpList_plain hg fun K' hK' => ?_
  obtain ⟨w', hr, h1, h2⟩ := h.run_put ht hn hk u
  unfold Oper.wp
  simp [execOp, hop, hm, hx, hv, hr, Result.andThen]
  exact hK' _ _ (hK w' h1 h2)

theorem wpList_del (hg : o.guard = none) (m x : Operand) (t e : TypeId) (hop : o.op = Op.call { callee := Callee.builtin Builtin.delete, args := #[m, x], argTypes := #[t, K] }) (ht : P.underlying t = some (.map K e))
    (h : HasMap E w b l) (k : α) (hk : E.ok k) (hm : a.eval m = .map (some b)) (hx : a.eval x = E.kv k)
    (hK : ∀ w', HasMap E w' b (del l k) → One b w w' → wpList P ops Q rest (a.put o.dst (.tuple #[])) w') : wpList P ops Q (o :: rest) a w := by
  refine wpList_plain hg fun K' hK' => ?_
  obtain ⟨w', hr, h1, h2⟩ := h.run_del ht hk o.type
  unfold Oper.wp
  simp [execOp, hop, resolve, invoke, builtin, hm, hx, hr, Result.andThen]
  exact hK' _ _ (hK w' h1 h2)

theorem wpList_len (hg : o.guard = none) (m : Operand) (t e : TypeId) (hop : o.op = Op.call { callee := Callee.builtin Builtin.len, args := #[m], argTypes := #[t] }) (ht : P.underlying t = some (.map K e))
    (h : HasMap E w b l) (hm : a.eval m = .map (some b)) (hK : wpList P ops Q rest (a.put o.dst (.int .i64 l.length)) w) : wpList P ops Q (o :: rest) a w := by
  refine wpList_plain hg fun K' hK' => ?_
  unfold Oper.wp
  simp [execOp, hop, resolve, invoke, builtin, hm, h.run_len ht o.type, Result.andThen]
  exact hK' _ _ hK
end

/-- The keys of an integer kind. -/
def intKeys {P : Program} {K : TypeId} {q : IntKind} (hk : P.underlying K = some (.int q)) : KeyEnc P K Int where
  law := int_keyed hk
  kv := Value.int q
  kl := Lit.int q
  ok := fun n => (Lit.int q n).wf = true
  key := fun _ h => keyOf_int_mk hk h
  inj := fun _ _ h => by injection h

end Go.Proofs.YtliimglbbiebiaaGreatDoor
end

section
/- A table of messages in stripes: how it stands in memory. -/
namespace Go.Proofs.YtliimglbbiebiaaGreatDoor
open Go.RowKit Go.Maps

abbrev uKeys : KeyEnc Tryz.prog 28 Int := intKeys Tryz.underlying28

section
variable {P : Program} {K : TypeId} {α : Type} [DecidableEq α] {E : KeyEnc P K α} {w : World} {b : Nat} {l l' : List (α × Value)}
theorem get_perm (hp : l.Perm l') (hnd : (l.map Prod.fst).Nodup) (a : α) : get l a = get l' a := by
  cases h : get l a with
  | none =>
    symm
    rw [get_none_iff] at h ⊢
    exact fun hm => h ((hp.map _).mem_iff.2 hm)
  | some v =>
    symm
    exact get_of_mem ((hp.map _).nodup_iff.1 hnd) (hp.mem_iff.1 (mem_of_get h))
theorem HasMap.perm (h : HasMap E w b l) (hp : l.Perm l') : HasMap E w b l' := by
  obtain ⟨D, h1, h2, h3⟩ := h.own
  refine ⟨(hp.map _).nodup_iff.1 h.nd, fun p hp' => h.oks p (hp.mem_iff.2 hp'), D, by rw [← hp.length_eq]; exact h1, by rw [← hp.length_eq]; exact h2, fun a ha z => ?_⟩
  rw [← get_perm hp h.nd a]
  exact h3 a ha z
theorem del_none {k : α} (h : get l k = none) : del l k = l := by
  unfold del
  rw [List.filter_eq_self]
  intro p hp
  have := get_none_iff.1 h
  simp
  rintro rfl
  exact this (List.mem_map.2 ⟨p, hp, rfl⟩)
theorem put_new_perm {k : α} {v : Value} (h : get l k = none) : (put l k v).Perm (l ++ [(k, v)]) := by
  unfold put
  rw [del_none h]
  exact (List.perm_append_singleton _ _).symm
theorem put_set_perm {k : α} {v v0 : Value} (hnd : (l.map Prod.fst).Nodup) (h : get l k = some v0) : (put l k v).Perm (l.map fun p => if p.1 = k then (k, v) else p) := by
  induction l with
  | nil => cases h
  | cons p l ih =>
    rw [List.map_cons, List.nodup_cons] at hnd
    rw [get_cons] at h
    unfold put del at ih ⊢
    by_cases hp : p.1 = k
    · have hn : get l k = none := get_none_iff.2 (by rw [← hp]; exact hnd.1)
      have hd : l.filter (fun p => decide (p.1 ≠ k)) = l := del_none hn
      rw [List.filter_cons_of_neg (by simpa using hp), hd, List.map_cons, if_pos hp]
      refine List.Perm.cons _ ?_
      have : l.map (fun p => if p.1 = k then (k, v) else p) = l := by
        conv => rhs; rw [← List.map_id l]
        refine List.map_congr_left fun q hq => ?_
        rw [if_neg]
        · rfl
        · rintro rfl
          exact get_none_iff.1 hn (List.mem_map.2 ⟨q, hq, rfl⟩)
      rw [this]
    · rw [if_neg hp] at h
      rw [List.filter_cons_of_pos (by simpa using hp), List.map_cons, if_neg hp]
      exact (List.Perm.swap _ _ _).trans ((ih hnd.2 h).cons _)
end

/-- The entries of stripe i of n. -/
def ent (n i : Nat) (X : List MB) : List (Int × Value) := (X.filter fun x : MB => decide (x.m.uid % (n : Int) = (i : Int))).map fun x : MB => (x.m.uid, x.val)
def findX (X : List MB) (k : Int) : Option MB := X.find? fun x : MB => decide (x.m.uid = k)
def remX (X : List MB) (k : Int) : List MB := X.filter fun x : MB => decide (x.m.uid ≠ k)
def MB.setf (x : MB) (f : Int) : MB := { x with m := { x.m with fl := f } }
def setX (X : List MB) (k f : Int) : List MB := X.map fun x : MB => if x.m.uid = k then x.setf f else x

theorem findX_map (X : List MB) (k : Int) : findM (X.map MB.m) k = (findX X k).map MB.m := by
  unfold findM findX
  rw [List.find?_map]
  rfl
theorem remX_map (X : List MB) (k : Int) : (remX X k).map MB.m = remM (X.map MB.m) k := by
  unfold remX remM
  rw [List.filter_map]
  rfl
theorem setX_map (X : List MB) (k f : Int) : (setX X k f).map MB.m = setF (X.map MB.m) k f := by
  unfold setX setF
  rw [List.map_map, List.map_map]
  refine List.map_congr_left fun x _ => ?_
  simp only [Function.comp]
  split <;> rfl
theorem findX_mem {X : List MB} {k : Int} {x : MB} (h : findX X k = some x) : x ∈ X ∧ x.m.uid = k := by
  unfold findX at h
  refine ⟨List.mem_of_find?_eq_some h, ?_⟩
  simpa using List.find?_some h

theorem get_ent (n : Nat) {i : Nat} {k : Int} (hk : k % n = i) (X : List MB) : get (ent n i X) k = (findX X k).map MB.val := by
  induction X with
  | nil => rfl
  | cons x X ih =>
    unfold ent findX at ih ⊢
    rw [List.find?_cons]
    by_cases hx : x.m.uid % n = i
    · rw [List.filter_cons_of_pos (by simpa using hx), List.map_cons, get_cons]
      by_cases he : x.m.uid = k
      · rw [if_pos he, decide_eq_true he]; rfl
      · rw [if_neg he, decide_eq_false he, ih]
    · rw [List.filter_cons_of_neg (by simpa using hx), decide_eq_false (by rintro rfl; exact hx hk), ih]
theorem ent_app (n i : Nat) (X : List MB) (x : MB) : ent n i (X ++ [x]) = if x.m.uid % n = i then ent n i X ++ [(x.m.uid, x.val)] else ent n i X := by
  unfold ent
  rw [List.filter_append]
  by_cases h : x.m.uid % n = i
  · rw [if_pos h, List.filter_cons_of_pos (by simpa using h)]
    simp
  · rw [if_neg h, List.filter_cons_of_neg (by simpa using h)]
    simp
theorem ent_rem (n i : Nat) (X : List MB) (k : Int) : ent n i (remX X k) = del (ent n i X) k := by
  unfold ent remX del
  rw [List.filter_map, List.filter_filter, List.filter_filter]
  congr 1
  refine List.filter_congr fun x _ => ?_
  simp only [Function.comp]
  rw [Bool.and_comm]
theorem setf_uid (x : MB) (f : Int) : (x.setf f).m.uid = x.m.uid := rfl
theorem ent_set {n i : Nat} {k f : Int} {x : MB} (X : List MB) (H : ∀ y ∈ X, y.m.uid = k → y = x) : ent n i (setX X k f) = (ent n i X).map fun p => if p.1 = k then (k, (x.setf f).val) else p := by
  induction X with
  | nil => rfl
  | cons y X ih =>
    have ih := ih fun z hz => H z (List.mem_cons_of_mem _ hz)
    have hy := H y List.mem_cons_self
    unfold ent setX at ih ⊢
    rw [List.map_cons]
    by_cases he : y.m.uid = k
    · obtain rfl := hy he
      rw [if_pos he]
      by_cases hx : y.m.uid % (n : Int) = (i : Int)
      · rw [List.filter_cons_of_pos (by rw [setf_uid]; simpa using hx), List.filter_cons_of_pos (by simpa using hx), List.map_cons, List.map_cons, List.map_cons, ih, setf_uid, if_pos he, he]
      · rw [List.filter_cons_of_neg (by rw [setf_uid]; simpa using hx), List.filter_cons_of_neg (by simpa using hx), ih]
    · rw [if_neg he]
      by_cases hx : y.m.uid % (n : Int) = (i : Int)
      · rw [List.filter_cons_of_pos (by simpa using hx), List.filter_cons_of_pos (by simpa using hx), List.map_cons, List.map_cons, List.map_cons, ih, if_neg he]
      · rw [List.filter_cons_of_neg (by simpa using hx), List.filter_cons_of_neg (by simpa using hx), ih]
theorem ent_set_other {n i : Nat} {k : Int} (hk : k % (n : Int) ≠ i) (f : Int) (X : List MB) : ent n i (setX X k f) = ent n i X := by
  induction X with
  | nil => rfl
  | cons y X ih =>
    unfold ent setX at ih ⊢
    rw [List.map_cons]
    by_cases he : y.m.uid = k
    · have hx : ¬ y.m.uid % (n : Int) = (i : Int) := by rw [he]; exact hk
      rw [if_pos he, List.filter_cons_of_neg (by rw [setf_uid]; simpa using hx), List.filter_cons_of_neg (by simpa using hx), ih]
    · rw [if_neg he]
      by_cases hx : y.m.uid % (n : Int) = (i : Int)
      · rw [List.filter_cons_of_pos (by simpa using hx), List.filter_cons_of_pos (by simpa using hx), List.map_cons, List.map_cons, ih]
      · rw [List.filter_cons_of_neg (by simpa using hx), List.filter_cons_of_neg (by simpa using hx), ih]
theorem ent_other (n : Nat) {i : Nat} {X : List MB} {k : Int} (hk : k % n ≠ i) : ∀ p ∈ ent n i X, p.1 ≠ k := by
  intro p hp
  unfold ent at hp
  obtain ⟨x, hx, rfl⟩ := List.mem_map.1 hp
  have := (List.mem_filter.1 hx).2
  simp at this
  rintro rfl
  exact hk this


/-- Where a table lies: its block, its parts' slice, each part and its map; all of it in the blocks from lo up to hi. -/
structure Tb where
  tb : Nat
  pb : Nat
  c : Nat
  n : Nat
  q : Nat → Nat
  mb : Nat → Nat
  lo : Nat
  hi : Nat

/-- What an operation may turn. -/
def Tb.foot (T : Tb) (k : Nat) : Prop := T.lo ≤ k ∧ k < T.hi

/-- The table T holds the messages X; the bodies lie in rows of their own, from block base on. -/
structure TBX (base : Nat) (w : World) (T : Tb) (X : List MB) : Prop where
  hd : Blk w T.tb 134 #[.slice (some ⟨T.pb, 0, none⟩) T.n T.c]
  n0 : 0 < T.n
  n1 : T.n ≤ 16
  nc : T.n ≤ T.c
  pt : ∃ cs, Blk w T.pb 135 cs ∧ ∀ i, i < T.n → cs[i]? = some (.pointer (some ⟨T.q i, 0, none⟩))
  part : ∀ i, i < T.n → Blk w (T.q i) 143 #[.int .i32 0, .int .u32 0, .map (some (T.mb i))]
  map : ∀ i, i < T.n → HasMap uKeys w (T.mb i) (ent T.n i X)
  body : ∀ x ∈ X, Own (intE .u8) 5 base w x.bv x.m.body
  nd : (X.map fun x => x.m.uid).Nodup
  ok : ∀ x ∈ X, x.m.ok ∧ x.m.body.length ≤ 65536
  qinj : ∀ i j, i < T.n → j < T.n → T.q i = T.q j → i = j
  minj : ∀ i j, i < T.n → j < T.n → T.mb i = T.mb j → i = j
  rtb : T.foot T.tb
  rpb : T.foot T.pb
  rq : ∀ i, i < T.n → T.foot (T.q i)
  rm : ∀ i, i < T.n → T.foot (T.mb i)
  top : T.hi ≤ w.heap.size

section
variable {base : Nat} {w w' : World} {T : Tb} {X : List MB}
theorem TBX.fr {S : Nat → Prop} (h : TBX base w T X) (hf : Fr S w w') (hS : ∀ k, S k → ¬ T.foot k) (hB : ∀ v l, Own (intE .u8) 5 base w v l → ∀ b, v.ownBlock = some b → ¬ S b) : TBX base w' T X := by
  obtain ⟨cs, hp, hpi⟩ := h.pt
  exact ⟨hf.blk h.hd fun hs => hS _ hs h.rtb, h.n0, h.n1, h.nc, ⟨cs, hf.blk hp fun hs => hS _ hs h.rpb, hpi⟩, fun i hi => hf.blk (h.part i hi) fun hs => hS _ hs (h.rq i hi), fun i hi => (h.map i hi).fr hf fun hs => hS _ hs (h.rm i hi),
    fun x hx => (h.body x hx).fr hf (hB _ _ (h.body x hx)), h.nd, h.ok, h.qinj, h.minj, h.rtb, h.rpb, h.rq, h.rm, Nat.le_trans h.top hf.size⟩
theorem TBX.new (h : TBX base w T X) (hf : New w w') : TBX base w' T X := h.fr hf (fun _ h => h.elim) fun _ _ _ _ _ h => h
theorem TBX.drew (h : TBX base w T X) : TBX base w.drew T X := h.new ((New.refl w).drew)
end

end Go.Proofs.YtliimglbbiebiaaGreatDoor
end

section
/- The numbers under which the dump holds the mutex's functions and types, and that they are the library's. -/
namespace Go.Proofs.YtliimglbbiebiaaGreatDoor
open Go.RowKit Go.MuLone

/-- The numbers under which the dump holds the mutex's functions and types. -/
abbrev mu : Go.Conc.Locks.MuLink := { lock := 243, unlock := 244, ilock := 300, iunlock := 301, lockSlow := 338, unlockSlow := 341, disable := 334, enable := 336, acquire := 337, relMerge := 339, cas32 := 335, add32 := 340, tMutex := 141, tIMutex := 139, tPMutex := 408, tPIMutex := 443, tPI32 := 445, tUP := 447, tNoCopy := 137, tU32 := 28 }
theorem muLib : Go.Conc.Locks.MuLib Tryz.prog mu :=
  ⟨Tryz.func243, Tryz.func244, Tryz.func300, Tryz.func301, Tryz.func334, Tryz.func336, Tryz.func337, Tryz.func339, Tryz.func335, Tryz.func340, Tryz.underlying139, Tryz.runUnderlying139, Tryz.sizeOf139, Tryz.isAgg139, Tryz.zeroValue139, Tryz.underlying141, Tryz.runUnderlying141, Tryz.sizeOf141, Tryz.isAgg141, Tryz.zeroValue141, Tryz.underlying408, Tryz.runUnderlying408, Tryz.sizeOf408, Tryz.isAgg408, Tryz.zeroValue408, Tryz.underlying443, Tryz.runUnderlying443, Tryz.sizeOf443, Tryz.isAgg443, Tryz.zeroValue443, Tryz.underlying445, Tryz.runUnderlying445, Tryz.sizeOf445, Tryz.isAgg445, Tryz.zeroValue445, Tryz.underlying447, Tryz.runUnderlying447, Tryz.sizeOf447, Tryz.isAgg447, Tryz.zeroValue447, Tryz.underlying137, Tryz.runUnderlying137, Tryz.sizeOf137, Tryz.isAgg137, Tryz.zeroValue137, Tryz.underlying21, Tryz.runUnderlying21, Tryz.sizeOf21, Tryz.isAgg21, Tryz.zeroValue21, (by kernel_rfl)⟩
end Go.Proofs.YtliimglbbiebiaaGreatDoor
end

section
/- do: a function is called with the messages of a stripe, under its lock. -/
namespace Go.Proofs.YtliimglbbiebiaaGreatDoor
open Go.RowKit Go.MuLone

set_option maxRecDepth 100000 in
set_option maxHeartbeats 1600000 in
theorem do_any (q m fn : Nat) (cap : Array Value) (R : World → Prop) (w : World) (hp : Blk w q 143 #[.int .i32 0, .int .u32 0, .map (some m)])
    (hE : ∀ args w, (callFunc fn args).run Tryz.prog w = .ok (.enter fn args) w)
    (hf : Calls Tryz.prog fn (#[.map (some m)] ++ cap) (w.setCell ⟨q, 0, none⟩ (.int .i32 1)) fun e w2 => e = .returned (.tuple #[]) ∧ R w2)
    (hR : ∀ w2, R w2 → Blk w2 q 143 #[.int .i32 1, .int .u32 0, .map (some m)]) :
    Calls Tryz.prog 191 #[.pointer (some ⟨q, 0, none⟩), .func (.func fn) #[] cap] w fun e w' => e = .returned (.tuple #[]) ∧ ∃ w2, R w2 ∧ w' = w2.setCell ⟨q, 0, none⟩ (.int .i32 0) := by
  have c0 := hp.cell 0
  have f0 := hp.frozen 0
  have h1 : Blk (w.setCell ⟨q, 0, none⟩ (.int .i32 1)) q 143 #[.int .i32 1, .int .u32 0, .map (some m)] := hp.set_ 0 _
  have d2 : (w.setCell ⟨q, 0, none⟩ (.int .i32 1)).cell? ⟨q, 2, none⟩ = some (.map (some m)) := h1.cell 2
  go_enter_defers Tryz.func191, Tryz.ntmps191
  go_wp2_with (first | (go_at_call 243; refine (lock_free muLib ⟨q, 0, none⟩ _ c0 f0).mono ?_; rintro e w' ⟨rfl, rfl⟩) | fail)
  refine hf.mono ?_
  rintro e w2 ⟨rfl, hr⟩
  have h2 := hR _ hr
  have HR := Lib.hid hr
  clear hr hR hf
  go_wp2
  refine leaves_cons (f := 244) (args := #[.pointer (some ⟨q, 0, none⟩)]) (by simp) (by simp [go_sem]) ?_
  refine (unlock_deferred muLib ⟨q, 0, none⟩ .returning _ (h2.cell 0) (h2.frozen 0)).mono ?_
  rintro e u' w'' ⟨rfl, rfl, rfl⟩
  exact ⟨_, results_none rfl _ _ _, rfl, _, HR.out, rfl⟩

end Go.Proofs.YtliimglbbiebiaaGreatDoor
end

