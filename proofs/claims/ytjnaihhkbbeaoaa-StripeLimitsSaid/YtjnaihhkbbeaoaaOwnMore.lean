/- Owned rows of elements of several cells: a store into one cell, what a cell reads as. Plain lemmas; of no program. -/
import Derived.Test.YtjnaihhkbbeaoaaMore
import Derived.Laws.Rows
namespace Go.Proofs.Ytjnaihhkbbeaoaa
open Go.RowKit

theorem take_snoc {α : Type} {l : List α} {k : Nat} {x : α} (h : l[k]? = some x) : l.take (k + 1) = l.take k ++ [x] := by
  have hk : k < l.length := (List.getElem?_eq_some_iff.1 h).1
  rw [List.take_succ_eq_append_getElem hk, (List.getElem?_eq_some_iff.1 h).2]
theorem filter_snoc {α : Type} {l : List α} {k : Nat} {x : α} (p : α → Bool) (h : l[k]? = some x) : (l.take (k + 1)).filter p = (l.take k).filter p ++ (if p x then [x] else []) := by
  rw [take_snoc h, List.filter_append]
  cases hp : p x <;> simp [hp]

theorem Elem.cells_set {α : Type} (E : Elem α) {l : List α} {k : Nat} {x y : α} (hx : l[k]? = some x) {j : Nat} {u : Value} (hj : j < E.sz) (hy : E.enc y = (E.enc x).set j u) : (E.cells l).set (k * E.sz + j) u = E.cells (l.set k y) := by
  induction l generalizing k with
  | nil => simp at hx
  | cons a l ih =>
    unfold Elem.cells at ih ⊢
    rw [List.flatMap_cons]
    cases k with
    | zero =>
      simp only [List.getElem?_cons_zero, Option.some.injEq] at hx
      subst hx
      rw [Nat.zero_mul, Nat.zero_add, List.set_append, if_pos (by rw [E.len]; exact hj), List.set_cons_zero, List.flatMap_cons, hy]
    | succ k =>
      rw [List.getElem?_cons_succ] at hx
      rw [List.set_append, if_neg (by rw [E.len, Nat.add_mul]; omega), E.len, show (k + 1) * E.sz + j - E.sz = k * E.sz + j by rw [Nat.add_mul]; omega, ih hx, List.set_cons_succ, List.flatMap_cons]

/-- A store into a cell of an owned row. -/
theorem Own.stored {α : Type} {E : Elem α} {e : TypeId} {base : Nat} {w : World} {g n c : Nat} {l : List α} (h : Own E e base w (.slice (some ⟨g, 0, none⟩) n c) l) {k : Nat} {x y : α} (hx : l[k]? = some x) {j : Nat} {u : Value}
    (hj : j < E.sz) (hy : E.enc y = (E.enc x).set j u) : Own E e base (w.setCell ⟨g, k * E.sz + j, none⟩ u) (.slice (some ⟨g, 0, none⟩) n c) (l.set k y) := by
  obtain ⟨A, c', he, _⟩ := Own.form h
  injection he with h1 h2 h3
  subst h2
  unfold Own at h ⊢
  have h2 := (h.stored (k * E.sz + j) u).1
  rw [E.cells_set hx hj hy] at h2
  rw [List.length_set]
  exact h2

theorem Own.some_ {α : Type} {E : Elem α} {e : TypeId} {base : Nat} {w : World} {A : Option Addr} {n c : Nat} {l : List α} (h : Own E e base w (.slice A n c) l) (hl : 0 < n) : ∃ g, A = some ⟨g, 0, none⟩ := by
  rcases h.2 with ⟨h1, _⟩ | ⟨g, _, _, h1, _⟩
  · injection h1 with _ h2; omega
  · injection h1 with h2; exact ⟨g, h2⟩
theorem Own.cell_at {α : Type} {E : Elem α} {e : TypeId} {base : Nat} {w : World} {g n c : Nat} {l : List α} (h : Own E e base w (.slice (some ⟨g, 0, none⟩) n c) l) {k : Nat} {x : α} (hx : l[k]? = some x) {j : Nat} {u : Value} (hu : (E.enc x)[j]? = some u) :
    w.cell? ⟨g, k * E.sz + j, none⟩ = some u := by
  have := World.ownsRow.cells h (g := g) rfl _ _ (E.cells_at hx hu)
  rwa [Addr.add_lit, Nat.zero_add] at this
theorem Own.frozen {α : Type} {E : Elem α} {e : TypeId} {base : Nat} {w : World} {g n c : Nat} {l : List α} (h : Own E e base w (.slice (some ⟨g, 0, none⟩) n c) l) (j : Nat) : w.frozen? ⟨g, j, none⟩ = false := by
  obtain ⟨A, c', he, _⟩ := Own.form h
  injection he with h1 h2 h3
  subst h2
  exact World.ownsRow.frozenAt h j
/-- The block that a row lies in. -/
theorem Own.heap {α : Type} {E : Elem α} {e : TypeId} {base : Nat} {w : World} {v : Value} {l : List α} (h : Own E e base w v l) {g : Nat} (hg : v.ownBlock = some g) : ∃ cs, Blk w g e cs := by
  rcases h.2 with ⟨rfl, _⟩ | ⟨g', cap, cur, rfl, _, hh, _⟩
  · cases hg
  · cases hg; exact ⟨cur, hh⟩

/-- Two results that stand in cells. -/
theorem results_cells {P : Program} {fn : Func} {p q : Tmp} {t u : TypeId} (h : fn.results = #[.cell p t, .cell q u]) (tmps : Array Value) (w : World) {a b : Addr} {v v' : Value}
    (hp : tmps[p]? = some (.pointer (some a))) (hq : tmps[q]? = some (.pointer (some b))) (hv : (loadVar t a).run P w = .ok v w) (hv' : (loadVar u b).run P w = .ok v' w) :
    (results fn tmps).run P w = .ok (.tuple #[v, v']) w := by
  simp [results, h, hp, hq, asAddr, hv, hv']
/-- A cell of a type of one cell. -/
theorem run_loadVar_one {P : Program} {t : TypeId} {d : TypeDesc} (hu : P.underlying t = some d) (hd : (match d with | .struct _ | .array _ _ => true | _ => false) = false) {w : World} {a : Addr} {v : Value} (hc : w.cell? a = some v) : (loadVar t a).run P w = .ok v w := by
  have hagg : (isAgg t).run P w = .ok false w := by
    unfold isAgg
    rw [Sem.run_bind, run_underlying hu w]
    cases d <;> simp_all
  simp [loadVar, Sem.run_bind, hagg, hc]

end Go.Proofs.Ytjnaihhkbbeaoaa
