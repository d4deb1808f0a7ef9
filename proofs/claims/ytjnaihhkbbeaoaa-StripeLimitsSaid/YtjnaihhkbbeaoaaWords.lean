/- Words for memory, of no program: a block that is known whole, a slice that reads as a list, frames in which one block alone (or none that was there) has turned. Plain lemmas, no conditions of their own. -/
import Derived.WalkKit
import Derived.Below
import Derived.Laws.OwnMore
import Derived.Laws.Rows
import Derived.Deep.AppendLies
import Derived.Deep.Draws
import Derived.Lib.Hide
import Derived.Maps.AppendAt
import Derived.StillTailTactics
namespace Go.Proofs.Ytjnaihhkbbeaoaa
open Go.RowKit

def Blk (w : World) (g : Nat) (t : TypeId) (cs : Array Value) : Prop := w.heap[g]? = some (.cells cs t (0, 0))

section
variable {w w' : World} {g : Nat} {t : TypeId} {cs : Array Value}
theorem Blk.lt (h : Blk w g t cs) : g < w.heap.size := by
  rcases Nat.lt_or_ge g w.heap.size with hlt | hge
  · exact hlt
  · unfold Blk at h; rw [Array.getElem?_eq_none hge] at h; cases h
theorem Blk.cell (h : Blk w g t cs) (i : Nat) : w.cell? ⟨g, i, none⟩ = cs[i]? := cell_of_row w g i cs t (0, 0) h
theorem Blk.frozen (h : Blk w g t cs) (i : Nat) : w.frozen? ⟨g, i, none⟩ = false := by
  unfold Blk at h
  simp [World.frozen?, h]
theorem Blk.new (w : World) (t : TypeId) (cs : Array Value) : Blk (w.alloc (.cells cs t)) w.heap.size t cs := heap_alloc_new w _
theorem Blk.drew (h : Blk w g t cs) : Blk w.drew g t cs := h
theorem Blk.drewN (h : Blk w g t cs) (n : Nat) : Blk (w.drewN n) g t cs := h
theorem Blk.alloc (h : Blk w g t cs) (o : Obj) : Blk (w.alloc o) g t cs := (Below.heap_alloc w o g h.lt).trans h
theorem Blk.set_ (h : Blk w g t cs) (i : Nat) (u : Value) : Blk (w.setCell ⟨g, i, none⟩ u) g t (cs.setIfInBounds i u) := by
  unfold Blk at h ⊢
  simp [World.setCell, Array.getElem?_modify, h]
theorem Blk.far (h : Blk w g t cs) {p : Addr} (hp : g ≠ p.block) (u : Value) : Blk (w.setCell p u) g t cs := (Below.heap_setCell w p u g hp).trans h
theorem Blk.below {B : Nat} (h : Blk w g t cs) (hb : Below B w w') (hg : g < B) : Blk w' g t cs := (hb.block g hg).trans h
theorem Blk.grown {row : Option Nat} (h : Blk w g t cs) (hb : w.grownBy w' row) (hg : some g ≠ row) : Blk w' g t cs := (hb.block g h.lt hg).trans h
theorem Blk.ne_ {g' : Nat} {t' : TypeId} {cs' : Array Value} (h : Blk w g t cs) (h' : Blk w g' t' cs') (hne : t ≠ t') : g ≠ g' := by
  rintro rfl
  unfold Blk at h h'
  rw [h] at h'
  injection h' with h'
  injection h' with _ ht
  exact hne ht
end

/-- A frame: only blocks that were there and are in S (and new ones) have turned. -/
structure Fr (S : Nat → Prop) (w w' : World) : Prop where
  os : w'.os = w.os
  tape : w'.tape = w.tape
  output : w'.output = w.output
  size : w.heap.size ≤ w'.heap.size
  block : ∀ k, k < w.heap.size → ¬ S k → w'.heap[k]? = w.heap[k]?

section
variable {S T : Nat → Prop} {a b c w w' : World}
theorem Fr.refl (S : Nat → Prop) (w : World) : Fr S w w := ⟨rfl, rfl, rfl, Nat.le_refl _, fun _ _ _ => rfl⟩
theorem Fr.trans (h : Fr S a b) (k : Fr S b c) : Fr S a c :=
  ⟨k.os.trans h.os, k.tape.trans h.tape, k.output.trans h.output, Nat.le_trans h.size k.size, fun i hi hn => (k.block i (Nat.lt_of_lt_of_le hi h.size) hn).trans (h.block i hi hn)⟩
theorem Fr.trans' (h : Fr S a b) (k : Fr T b c) (hT : ∀ i, i < a.heap.size → T i → S i) : Fr S a c :=
  ⟨k.os.trans h.os, k.tape.trans h.tape, k.output.trans h.output, Nat.le_trans h.size k.size, fun i hi hn => (k.block i (Nat.lt_of_lt_of_le hi h.size) (fun ht => hn (hT i hi ht))).trans (h.block i hi hn)⟩
theorem Fr.mono (h : Fr S a b) (hT : ∀ i, i < a.heap.size → S i → T i) : Fr T a b :=
  ⟨h.os, h.tape, h.output, h.size, fun i hi hn => h.block i hi (fun hs => hn (hT i hi hs))⟩
theorem Fr.drew (h : Fr S a w) : Fr S a w.drew := ⟨h.os, h.tape, h.output, h.size, h.block⟩
theorem Fr.drewN (h : Fr S a w) (n : Nat) : Fr S a (w.drewN n) := ⟨h.os, h.tape, h.output, h.size, h.block⟩
theorem Fr.alloc (h : Fr S a w) (o : Obj) : Fr S a (w.alloc o) :=
  ⟨h.os, h.tape, h.output, Nat.le_trans h.size (by simp), fun i hi hn => (Below.heap_alloc w o i (Nat.lt_of_lt_of_le hi h.size)).trans (h.block i hi hn)⟩
theorem Fr.setCell (h : Fr S a w) {p : Addr} (hp : p.block < a.heap.size → S p.block) (u : Value) : Fr S a (w.setCell p u) :=
  ⟨h.os, h.tape, h.output, by simpa [World.setCell] using h.size, fun i hi hn => (Below.heap_setCell w p u i (by rintro rfl; exact hn (hp hi))).trans (h.block i hi hn)⟩
theorem Fr.below (h : Fr S a b) {B : Nat} (hB : ∀ i, i < B → i < a.heap.size ∧ ¬ S i) : Below B a b :=
  ⟨h.os, h.tape, h.output, h.size, fun i hi => h.block i (hB i hi).1 (hB i hi).2⟩
theorem Fr.of_below {B : Nat} (h : Below B a b) (hS : ∀ i, i < a.heap.size → B ≤ i → S i) : Fr S a b :=
  ⟨h.os, h.tape, h.output, h.size, fun i hi hn => h.block i (by rcases Nat.lt_or_ge i B with h1 | h1; exact h1; exact absurd (hS i hi h1) hn)⟩
theorem Fr.of_grown {row : Option Nat} (h : a.grownBy b row) (hS : ∀ i, row = some i → S i) : Fr S a b :=
  ⟨h.os, h.tape, h.output, h.size, fun i hi hn => h.block i hi (fun e => hn (hS i e.symm))⟩
theorem Fr.blk {g : Nat} {t : TypeId} {cs : Array Value} (h : Fr S a b) (hb : Blk a g t cs) (hg : ¬ S g) : Blk b g t cs := (h.block g hb.lt hg).trans hb
theorem Fr.cell (h : Fr S a b) {p : Addr} {v : Value} (hc : a.cell? p = some v) (hp : ¬ S p.block) : b.cell? p = some v :=
  (World.cell?_of_block (h.block p.block (World.block_lt_of_cell? a p hc) hp)).trans hc
end

/-- No block that was there has turned. -/
abbrev New (w w' : World) : Prop := Fr (fun _ => False) w w'
/-- One block alone that was there has turned. -/
abbrev One (g : Nat) (w w' : World) : Prop := Fr (fun k => k = g) w w'

theorem One.refl (g : Nat) (w : World) : One g w w := Fr.refl _ _
theorem One.set {g : Nat} {a w : World} (h : One g a w) (i : Nat) (u : Value) : One g a (w.setCell ⟨g, i, none⟩ u) := Fr.setCell h (fun _ => rfl) u
theorem One.blk {g k : Nat} {t : TypeId} {cs : Array Value} {a b : World} (h : One g a b) (hb : Blk a k t cs) (hk : k ≠ g) : Blk b k t cs := Fr.blk h hb hk
theorem New.blk {k : Nat} {t : TypeId} {cs : Array Value} {a b : World} (h : New a b) (hb : Blk a k t cs) : Blk b k t cs := Fr.blk h hb id
theorem New.refl (w : World) : New w w := Fr.refl _ _
/-- One block that is new to the earlier world has turned: nothing of the earlier world has. -/
theorem New.one {g : Nat} {a b c : World} (h : New a b) (k : One g b c) (hg : a.heap.size ≤ g) : New a c := Fr.trans' h k (fun _ hi e => by subst e; omega)
theorem New.toBelow {w w' : World} (h : New w w') : Below w.heap.size w w' := h.below fun _ hi => ⟨hi, id⟩
theorem New.of_below {w w' : World} (h : Below w.heap.size w w') : New w w' := Fr.of_below h fun _ hi hB => by omega

/-- A slice value: its address, its length, its capacity, and what it reads as. -/
structure Sl (α : Type) where
  A : Option Addr
  n : Nat
  c : Nat
  xs : List α
/-- The slice value's own form. -/
abbrev Sl.val {α : Type} (s : Sl α) : Value := .slice s.A s.n s.c

/-- The slice reads as the list s.xs, each element one cell by enc; what lies below block B. -/
def SlAt {α : Type} (enc : α → Value) (B : Nat) (w : World) (s : Sl α) : Prop :=
  s.n = s.xs.length ∧ s.n ≤ s.c ∧ (0 < s.n → ∃ b off, s.A = some ⟨b, off, none⟩ ∧ b < B ∧ ∀ i x, s.xs[i]? = some x → w.cell? ⟨b, off + i, none⟩ = some (enc x))

theorem SlAt.keep {α : Type} {enc : α → Value} {B : Nat} {w w' : World} {s : Sl α} (h : SlAt enc B w s) (hk : ∀ p : Addr, p.block < B → w'.cell? p = w.cell? p) : SlAt enc B w' s :=
  ⟨h.1, h.2.1, fun hn => by
    obtain ⟨b, off, hA, hb, hc⟩ := h.2.2 hn
    exact ⟨b, off, hA, hb, fun i x hx => (hk _ hb).trans (hc i x hx)⟩⟩
theorem SlAt.new {α : Type} {enc : α → Value} {B : Nat} {w w' : World} {s : Sl α} (h : SlAt enc B w s) (hB : B ≤ w.heap.size) (hn : New w w') : SlAt enc B w' s :=
  h.keep fun p hp => World.cell?_of_block (hn.block p.block (by omega) id)
theorem SlAt.at_ {α : Type} {enc : α → Value} {B : Nat} {w : World} {s : Sl α} (h : SlAt enc B w s) {i : Nat} {x : α} (hx : s.xs[i]? = some x) : ∃ b off, s.A = some ⟨b, off, none⟩ ∧ b < B ∧ w.cell? ⟨b, off + i, none⟩ = some (enc x) := by
  have hi : i < s.xs.length := (List.getElem?_eq_some_iff.1 hx).1
  obtain ⟨b, off, hA, hb, hc⟩ := h.2.2 (by rw [h.1]; omega)
  exact ⟨b, off, hA, hb, hc i x hx⟩

/-- A region that draws its order, whose last operations come in one order and whose first n only read: it is walked in the order of the text, one draw on. -/
theorem wp_tail {P : Program} {id : Nat} {Q : Exit → Act → World → Prop} {a : Act} {w : World} {l : List Oper} (n : Nat) (hm : P.follows .mixedOrders = true) (hB : Region.lexTailB .any l.toArray n = true)
    (h : wpStill P l.toArray w.drew (fun a' => wpList P l.toArray Q (l.drop n) a' w.drew) (l.take n) a) : (Code.region id l.toArray true).wp P Q a w :=
  wp_region_still_tail n hm hB h

end Go.Proofs.Ytjnaihhkbbeaoaa
