/- Small words on rows, blocks and functions. Plain lemmas; of no program's text. -/
import Derived.Test.YtjnaihhkbbeaoaaRows
import Derived.Test.YtjnaihhkbbeaoaaInts
import Derived.WalkKit
namespace Go.Proofs.Ytjnaihhkbbeaoaa
open Go.RowKit

theorem own_shape {α : Type} {E : Elem α} {e : TypeId} {base : Nat} {w : World} {v : Value} {l : List α} (h : Own E e base w v l) : ∃ A n c, v = .slice A n c := by
  obtain ⟨A, c, h, _⟩ := h.form
  exact ⟨A, _, c, h⟩

theorem fr_or {S T : Nat → Prop} {a b : World} (h : Fr S a b) (hT : ∀ i, S i → T i) : Fr T a b := h.mono fun i _ => hT i

/-- What turned nothing turned none but S. -/
theorem New.to {S : Nat → Prop} {a b : World} (h : New a b) : Fr S a b := h.mono fun _ _ h => h.elim

/-- Only blocks that are new to the earlier world have turned: nothing of the earlier world has. -/
theorem New.two {S : Nat → Prop} {a b c : World} (h : New a b) (k : Fr S b c) (hS : ∀ i, S i → a.heap.size ≤ i) : New a c := Fr.trans' h k fun i hi hs => by have := hS i hs; omega

theorem Own.empty {α : Type} (E : Elem α) (e : TypeId) (base : Nat) (w : World) (hb : base ≤ w.heap.size) : Own E e base (w.alloc (.cells #[] e)) (.slice (some ⟨w.heap.size, 0, none⟩) 0 0) [] := by
  unfold Own
  exact World.ownsRow_made w #[] 0 hb (Nat.zero_le _) (by simp)

/-- A whole block of elements reads as its list. -/
theorem rd_block {α : Type} (E : Elem α) {w : World} {g : Nat} {t : TypeId} {cs : Array Value} (h : Blk w g t cs) (l : List α) (hcs : cs.toList = E.cells l) : Rd E w (.slice (some ⟨g, 0, none⟩) l.length l.length) l := by
  refine ⟨_, _, rfl, Nat.le_refl _, fun _ => ⟨g, 0, rfl, fun i x hx j u hu => ?_⟩⟩
  rw [h.cell, Nat.zero_add, ← Array.getElem?_toList, hcs]
  exact E.cells_at hx hu

theorem enters (f : Nat) (fn : Func) (c : Code) (hf : Try.prog.funcs[f]? = some fn) (hn : (fn.name == "runtime.NumGoroutine") = false) (hb : fn.body = some c) (args : Array Value) (w : World) : (callFunc f args).run Try.prog w = .ok (.enter f args) w := by
  have h1 : fn.name ≠ "runtime.NumGoroutine" := by simpa using hn
  simp [callFunc, hf, h1, hb]

end Go.Proofs.Ytjnaihhkbbeaoaa
