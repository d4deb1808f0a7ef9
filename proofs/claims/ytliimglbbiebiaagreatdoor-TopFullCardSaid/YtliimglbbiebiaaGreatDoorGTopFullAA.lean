/- A part of the proof: Words, MsgP, Rws, RowOps, Ints, More. -/
import Derived.WalkKit
import Derived.Below
import Derived.Laws.OwnMore
import Derived.Laws.Rows
import Derived.Deep.AppendLies
import Derived.Deep.Draws
import Derived.Lib.Hide
import Derived.Maps.AppendAt
import Derived.StillTailTactics
import Derived.Laws.BitsAllLaws
import Derived.OwnWalk
import Derived.Laws.CopyRow
import Derived.Lib.SliceRun
import Derived.Lib.AppendZerosOnto
import Derived.Test.YtliimglbbiebiaaGreatDoorRows

section
/- Words for memory, of no program: a block that is known whole, a slice that reads as a list, frames in which one block alone (or none that was there) has turned. Plain lemmas, no conditions of their own. -/
namespace Go.Proofs.YtliimglbbiebiaaGreatDoor
open Go.RowKit

def Blk (w : World) (g : Nat) (t : TypeId) (cs : Array Value) : Prop := w.heap[g]? = some (.cells cs t (0, 0))

section
variable {w w' : World} {g : Nat} {t : TypeId} {cs : Array Value}
theorem Blk.lt (h : Blk w g t cs) : g < w.heap.size := by
  rcases Nat.lt_or_ge g w.heap.size with hlt | hge
  · exact hlt
  · unfold Blk at h; rw [Array.getElem?_eq_none hge] at h; cases h
theorem Blk.cell (h : Blk w g t cs) (i : Nat) : w.cell? ⟨g, i, none⟩ = cs[i]? := cell_of_row w g i cs t (0, 0) h
theorem Blk.frozen (h : Blk w g t cs) (i : Nat) : w.frozen? ⟨g, i, none⟩ = false := by
  unfold Blk at h
  simp [World.frozen?, h]
theorem Blk.new (w : World) (t : TypeId) (cs : Array Value) : Blk (w.alloc (.cells cs t)) w.heap.size t cs := heap_alloc_new w _
theorem Blk.drew (h : Blk w g t cs) : Blk w.drew g t cs := h
theorem Blk.drewN (h : Blk w g t cs) (n : Nat) : Blk (w.drewN n) g t cs := h
theorem Blk.alloc (h : Blk w g t cs) (o : Obj) : Blk (w.alloc o) g t cs := (Below.heap_alloc w o g h.lt).trans h
theorem Blk.set_ (h : Blk w g t cs) (i : Nat) (u : Value) : Blk (w.setCell ⟨g, i, none⟩ u) g t (cs.setIfInBounds i u) := by
  unfold Blk at h ⊢
  simp [World.setCell, Array.getElem?_modify, h]
theorem Blk.far (h : Blk w g t cs) {p : Addr} (hp : g ≠ p.block) (u : Value) : Blk (w.setCell p u) g t cs := (Below.heap_setCell w p u g hp).trans h
theorem Blk.below {B : Nat} (h : Blk w g t cs) (hb : Below B w w') (hg : g < B) : Blk w' g t cs := (hb.block g hg).trans h
theorem Blk.grown {row : Option Nat} (h : Blk w g t cs) (hb : w.grownBy w' row) (hg : some g ≠ row) : Blk w' g t cs := (hb.block g h.lt hg).trans h
theorem Blk.ne_ {g' : Nat} {t' : TypeId} {cs' : Array Value} (h : Blk w g t cs) (h' : Blk w g' t' cs') (hne : t ≠ t') : g ≠ g' := by
  rintro rfl
  unfold Blk at h h'
  rw [h] at h'
  injection h' with h'
  injection h' with _ ht
  exact hne ht
end

/-- A frame: only blocks that were there and are in S (and new ones) have turned. -/
structure Fr (S : Nat → Prop) (w w' : World) : Prop where
  os : w'.os = w.os
  tape : w'.tape = w.tape
  output : w'.output = w.output
  size : w.heap.size ≤ w'.heap.size
  block : ∀ k, k < w.heap.size → ¬ S k → w'.heap[k]? = w.heap[k]?

section
variable {S T : Nat → Prop} {a b c w w' : World}
theorem Fr.refl (S : Nat → Prop) (w : World) : Fr S w w := ⟨rfl, rfl, rfl, Nat.le_refl _, fun _ _ _ => rfl⟩
theorem Fr.trans (h : Fr S a b) (k : Fr S b c) : Fr S a c :=
  ⟨k.os.trans h.os, k.tape.trans h.tape, k.output.trans h.output, Nat.le_trans h.size k.size, fun i hi hn => (k.block i (Nat.lt_of_lt_of_le hi h.size) hn).trans (h.block i hi hn)⟩
theorem Fr.trans' (h : Fr S a b) (k : Fr T b c) (hT : ∀ i, i < a.heap.size → T i → S i) : Fr S a c :=
  ⟨k.os.trans h.os, k.tape.trans h.tape, k.output.trans h.output, Nat.le_trans h.size k.size, fun i hi hn => (k.block i (Nat.lt_of_lt_of_le hi h.size) (fun ht => hn (hT i hi ht))).trans (h.block i hi hn)⟩
theorem Fr.mono (h : Fr S a b) (hT : ∀ i, i < a.heap.size → S i → T i) : Fr T a b :=
  ⟨h.os, h.tape, h.output, h.size, fun i hi hn => h.block i hi (fun hs => hn (hT i hi hs))⟩
theorem Fr.drew (h : Fr S a w) : Fr S a w.drew := ⟨h.os, h.tape, h.output, h.size, h.block⟩
theorem Fr.drewN (h : Fr S a w) (n : Nat) : Fr S a (w.drewN n) := ⟨h.os, h.tape, h.output, h.size, h.block⟩
theorem Fr.alloc (h : Fr S a w) (o : Obj) : Fr S a (w.alloc o) :=
  ⟨h.os, h.tape, h.output, Nat.le_trans h.size (by simp), fun i hi hn => (Below.heap_alloc w o i (Nat.lt_of_lt_of_le hi h.size)).trans (h.block i hi hn)⟩
theorem Fr.setCell (h : Fr S a w) {p : Addr} (hp : p.block < a.heap.size → S p.block) (u : Value) : Fr S a (w.setCell p u) :=
  ⟨h.os, h.tape, h.output, by simpa [World.setCell] using h.size, fun i hi hn => (Below.heap_setCell w p u i (by rintro rfl; exact hn (hp hi))).trans (h.block i hi hn)⟩
theorem Fr.below (h : Fr S a b) {B : Nat} (hB : ∀ i, i < B → i < a.heap.size ∧ ¬ S i) : Below B a b :=
  ⟨h.os, h.tape, h.output, h.size, fun i hi => h.block i (hB i hi).1 (hB i hi).2⟩
theorem Fr.of_below {B : Nat} (h : Below B a b) (hS : ∀ i, i < a.heap.size → B ≤ i → S i) : Fr S a b :=
  ⟨h.os, h.tape, h.output, h.size, fun i hi hn => h.block i (by rcases Nat.lt_or_ge i B with h1 | h1; exact h1; exact absurd (hS i hi h1) hn)⟩
theorem Fr.of_grown {row : Option Nat} (h : a.grownBy b row) (hS : ∀ i, row = some i → S i) : Fr S a b :=
  ⟨h.os, h.tape, h.output, h.size, fun i hi hn => h.block i hi (fun e => hn (hS i e.symm))⟩
theorem Fr.blk {g : Nat} {t : TypeId} {cs : Array Value} (h : Fr S a b) (hb : Blk a g t cs) (hg : ¬ S g) : Blk b g t cs := (h.block g hb.lt hg).trans hb
theorem Fr.cell (h : Fr S a b) {p : Addr} {v : Value} (hc : a.cell? p = some v) (hp : ¬ S p.block) : b.cell? p = some v :=
  (World.cell?_of_block (h.block p.block (World.block_lt_of_cell? a p hc) hp)).trans hc
end

/-- No block that was there has turned. -/
abbrev New (w w' : World) : Prop := Fr (fun _ => False) w w'
/-- One block alone that was there has turned. -/
abbrev One (g : Nat) (w w' : World) : Prop := Fr (fun k => k = g) w w'

theorem One.refl (g : Nat) (w : World) : One g w w := Fr.refl _ _
theorem One.set {g : Nat} {a w : World} (h : One g a w) (i : Nat) (u : Value) : One g a (w.setCell ⟨g, i, none⟩ u) := Fr.setCell h (fun _ => rfl) u
theorem One.blk {g k : Nat} {t : TypeId} {cs : Array Value} {a b : World} (h : One g a b) (hb : Blk a k t cs) (hk : k ≠ g) : Blk b k t cs := Fr.blk h hb hk
theorem New.blk {k : Nat} {t : TypeId} {cs : Array Value} {a b : World} (h : New a b) (hb : Blk a k t cs) : Blk b k t cs := Fr.blk h hb id
theorem New.refl (w : World) : New w w := Fr.refl _ _
/-- One block that is new to the earlier world has turned: nothing of the earlier world has. -/
theorem New.one {g : Nat} {a b c : World} (h : New a b) (k : One g b c) (hg : a.heap.size ≤ g) : New a c := Fr.trans' h k (fun _ hi e => by subst e; omega)
theorem New.toBelow {w w' : World} (h : New w w') : Below w.heap.size w w' := h.below fun _ hi => ⟨hi, id⟩
theorem New.of_below {w w' : World} (h : Below w.heap.size w w') : New w w' := Fr.of_below h fun _ hi hB => by omega

/-- A slice value: its address, its length, its capacity, and what it reads as. -/
structure Sl (α : Type) where
  A : Option Addr
  n : Nat
  c : Nat
  xs : List α
/-- The slice value's own form. -/
abbrev Sl.val {α : Type} (s : Sl α) : Value := .slice s.A s.n s.c

/-- The slice reads as the list s.xs, each element one cell by enc; what lies below block B. -/
def SlAt {α : Type} (enc : α → Value) (B : Nat) (w : World) (s : Sl α) : Prop :=
  s.n = s.xs.length ∧ s.n ≤ s.c ∧ (0 < s.n → ∃ b off, s.A = some ⟨b, off, none⟩ ∧ b < B ∧ ∀ i x, s.xs[i]? = some x → w.cell? ⟨b, off + i, none⟩ = some (enc x))

theorem SlAt.keep {α : Type} {enc : α → Value} {B : Nat} {w w' : World} {s : Sl α} (h : SlAt enc B w s) (hk : ∀ p : Addr, p.block < B → w'.cell? p = w.cell? p) : SlAt enc B w' s :=
  ⟨h.1, h.2.1, fun hn => by
    obtain ⟨b, off, hA, hb, hc⟩ := h.2.2 hn
    exact ⟨b, off, hA, hb, fun i x hx => (hk _ hb).trans (hc i x hx)⟩⟩
theorem SlAt.new {α : Type} {enc : α → Value} {B : Nat} {w w' : World} {s : Sl α} (h : SlAt enc B w s) (hB : B ≤ w.heap.size) (hn : New w w') : SlAt enc B w' s :=
  h.keep fun p hp => World.cell?_of_block (hn.block p.block (by omega) id)
theorem SlAt.at_ {α : Type} {enc : α → Value} {B : Nat} {w : World} {s : Sl α} (h : SlAt enc B w s) {i : Nat} {x : α} (hx : s.xs[i]? = some x) : ∃ b off, s.A = some ⟨b, off, none⟩ ∧ b < B ∧ w.cell? ⟨b, off + i, none⟩ = some (enc x) := by
  have hi : i < s.xs.length := (List.getElem?_eq_some_iff.1 hx).1
  obtain ⟨b, off, hA, hb, hc⟩ := h.2.2 (by rw [h.1]; omega)
  exact ⟨b, off, hA, hb, hc i x hx⟩

/-- A region that draws its order, whose last operations come in one order and whose first n only read: it is walked in the order of the text, one draw on. -/
theorem wp_tail {P : Program} {id : Nat} {Q : Exit → Act → World → Prop} {a : Act} {w : World} {l : List Oper} (n : Nat) (hm : P.follows .mixedOrders = true) (hB : Region.lexTailB .any l.toArray n = true)
    (h : wpStill P l.toArray w.drew (fun a' => wpList P l.toArray Q (l.drop n) a' w.drew) (l.take n) a) : (Code.region id l.toArray true).wp P Q a w :=
  wp_region_still_tail n hm hB h

end Go.Proofs.YtliimglbbiebiaaGreatDoor
end

section
/- Messages, and what a table of them answers: plain definitions and lemmas; of no program. -/
namespace Go.Proofs.YtliimglbbiebiaaGreatDoor
open Go.RowKit

/-- A message: its identifier, its flags, its body's bytes. -/
structure Msg where
  uid : Int
  fl : Int
  body : List Int
  deriving DecidableEq

/-- Each number fits its kind. -/
def Msg.wf (m : Msg) : Prop := (0 ≤ m.uid ∧ m.uid ≤ 4294967295) ∧ (0 ≤ m.fl ∧ m.fl ≤ 255)
/-- A message that a table keeps. -/
def Msg.ok (m : Msg) : Prop := (1 ≤ m.uid ∧ m.uid ≤ 4294967295) ∧ (0 ≤ m.fl ∧ m.fl ≤ 31)

def msg0 : Msg := ⟨0, 0, []⟩

/-- The message with an identifier. -/
def findM (M : List Msg) (k : Int) : Option Msg := M.find? fun m => decide (m.uid = k)
/-- Where it stands, or -1. -/
def findI (M : List Msg) (k : Int) : Int := match M.findIdx? fun m => decide (m.uid = k) with | some i => i | none => -1

def putC (M : List Msg) (m : Msg) : Int := if m.uid = 0 ∨ 31 < m.fl ∨ 65536 < m.body.length then 2 else if (findM M m.uid).isSome then 8 else 0
def putM (M : List Msg) (m : Msg) : List Msg := if putC M m = 0 then M ++ [m] else M

def andI (a b : Int) : Int := ((a.toNat &&& b.toNat : Nat) : Int)
def orI (a b : Int) : Int := ((a.toNat ||| b.toNat : Nat) : Int)
def andnI (a b : Int) : Int := ((a.toNat &&& (255 - b.toNat) : Nat) : Int)

/-- The flags behind a change. -/
def chg (old mode f : Int) : Option Int := if 31 < old ∨ 31 < f then none else if mode = 0 then some f else if mode = 1 then some (orI old f) else if mode = 2 then some (andnI old f) else none

/-- The flags, the code, the messages behind a change of flags. -/
def flX (M : List Msg) (k mode f : Int) : Int := match findM M k with | none => 0 | some m => (chg m.fl mode f).getD 0
def flC (M : List Msg) (k mode f : Int) : Int := match findM M k with | none => 7 | some m => if (chg m.fl mode f).isSome then 0 else 2
def setF (M : List Msg) (k x : Int) : List Msg := M.map fun m => if m.uid = k then { m with fl := x } else m
def flM (M : List Msg) (k mode f : Int) : List Msg := if flC M k mode f = 0 then setF M k (flX M k mode f) else M

def remM (M : List Msg) (k : Int) : List Msg := M.filter fun m => decide (m.uid ≠ k)

/-- The identifiers of the messages with some flags, in the messages' order. -/
def withL (M : List Msg) (f : Int) : List Int := (M.filter fun m => decide (andI m.fl f = f)).map Msg.uid

/-- The messages of stripe i of n. -/
def strM (n : Nat) (i : Nat) (M : List Msg) : List Msg := M.filter fun m => decide (m.uid % n = i)
def sizesM (n : Nat) (M : List Msg) : List Int := (List.range n).map fun i => ((strM n i M).length : Int)

theorem findM_mem {M : List Msg} {k : Int} {m : Msg} (h : findM M k = some m) : m ∈ M ∧ m.uid = k := by
  unfold findM at h
  refine ⟨List.mem_of_find?_eq_some h, ?_⟩
  simpa using List.find?_some h
theorem findM_none {M : List Msg} {k : Int} : findM M k = none ↔ ∀ m ∈ M, m.uid ≠ k := by
  unfold findM
  rw [List.find?_eq_none]
  simp
theorem findM_of_mem {M : List Msg} (hnd : (M.map Msg.uid).Nodup) {m : Msg} (h : m ∈ M) : findM M m.uid = some m := by
  induction M with
  | nil => cases h
  | cons p M ih =>
    rw [List.map_cons, List.nodup_cons] at hnd
    unfold findM at ih ⊢
    rw [List.find?_cons]
    rcases List.mem_cons.1 h with rfl | h'
    · simp
    · have : p.uid ≠ m.uid := fun e => hnd.1 (by rw [e]; exact List.mem_map.2 ⟨m, h', rfl⟩)
      simp [this, ih hnd.2 h']
theorem findI_nonneg {M : List Msg} {k : Int} : 0 ≤ findI M k ↔ (findM M k).isSome = true := by
  unfold findI findM
  rw [List.find?_isSome]
  cases h : M.findIdx? fun m => decide (m.uid = k) with
  | none =>
    rw [List.findIdx?_eq_none_iff] at h
    simp at h ⊢
    exact h
  | some i =>
    obtain ⟨hl, hp, _⟩ := List.findIdx?_eq_some_iff_getElem.1 h
    simp
    exact ⟨M[i], List.getElem_mem hl, by simpa using hp⟩
theorem findI_get {M : List Msg} {k : Int} {i : Nat} (h : findI M k = i) : M[i]? = findM M k ∧ i < M.length := by
  unfold findI at h
  unfold findM
  cases h2 : M.findIdx? fun m => decide (m.uid = k) with
  | none => rw [h2] at h; simp at h
  | some j =>
    rw [h2] at h
    have : j = i := by have h : (j : Int) = (i : Int) := h; omega
    subst this
    obtain ⟨hl, hp, hb⟩ := List.findIdx?_eq_some_iff_getElem.1 h2
    refine ⟨?_, hl⟩
    rw [List.getElem?_eq_getElem hl]
    symm
    rw [List.find?_eq_some_iff_getElem]
    exact ⟨hp, j, hl, rfl, fun q hq => by simpa using hb q hq⟩

theorem nodup_put {M : List Msg} {m : Msg} (h : (M.map Msg.uid).Nodup) (hn : findM M m.uid = none) : ((M ++ [m]).map Msg.uid).Nodup := by
  rw [List.map_append, List.nodup_append]
  refine ⟨h, by simp, fun a ha b hb => ?_⟩
  simp at hb
  subst hb
  obtain ⟨x, hx, rfl⟩ := List.mem_map.1 ha
  exact findM_none.1 hn x hx
theorem setF_uid (M : List Msg) (k x : Int) : (setF M k x).map Msg.uid = M.map Msg.uid := by
  unfold setF
  rw [List.map_map]
  refine List.map_congr_left fun m _ => ?_
  simp only [Function.comp]
  split <;> rfl
theorem nodup_rem {M : List Msg} (k : Int) (h : (M.map Msg.uid).Nodup) : ((remM M k).map Msg.uid).Nodup := h.sublist (List.Sublist.map _ List.filter_sublist)

theorem u8_orI {a b : Int} (h1 : 0 ≤ a) (h2 : a ≤ 255) (h3 : 0 ≤ b) (h4 : b ≤ 255) : bits .or .u8 a b = orI a b := u8_or a b h1 (by omega) h3 (by omega)
theorem u8_andI {a b : Int} (h1 : 0 ≤ a) (h2 : a ≤ 255) (h3 : 0 ≤ b) (h4 : b ≤ 255) : bits .and .u8 a b = andI a b := u8_and a b h1 (by omega) h3 (by omega)
theorem u8_andnI {a b : Int} (h1 : 0 ≤ a) (h2 : a ≤ 255) (h3 : 0 ≤ b) (h4 : b ≤ 255) : bits .andNot .u8 a b = andnI a b := u8_andNot a b h1 (by omega) h3 (by omega)

theorem nat31 (a : Nat) (h : a ≤ 31) : a < 2 ^ 5 := by omega
theorem orI_le {a b : Int} (h2 : a ≤ 31) (h4 : b ≤ 31) : 0 ≤ orI a b ∧ orI a b ≤ 31 := by
  unfold orI
  have := Nat.or_lt_two_pow (nat31 a.toNat (by omega)) (nat31 b.toNat (by omega))
  omega
theorem andnI_le {a b : Int} (h2 : a ≤ 31) : 0 ≤ andnI a b ∧ andnI a b ≤ 31 := by
  unfold andnI
  have := @Nat.and_le_left a.toNat (255 - b.toNat)
  omega
theorem chg_ok {old mode f x : Int} (h : chg old mode f = some x) (hf0 : 0 ≤ f) : 0 ≤ x ∧ x ≤ 31 := by
  unfold chg at h
  split at h
  · cases h
  · split at h
    · cases h; omega
    · split at h
      · cases h; exact orI_le (by omega) (by omega)
      · split at h
        · cases h; exact andnI_le (by omega)
        · cases h
theorem i64_orI {a b : Int} (h1 : 0 ≤ a) (h2 : a ≤ 31) (h3 : 0 ≤ b) (h4 : b ≤ 31) : bits .or .i64 a b = orI a b := by
  obtain ⟨A, rfl⟩ := Int.eq_ofNat_of_zero_le h1
  obtain ⟨B, rfl⟩ := Int.eq_ofNat_of_zero_le h3
  have h : ∀ A : Fin 32, ∀ B : Fin 32, bits .or .i64 ((A.val : Nat) : Int) ((B.val : Nat) : Int) = orI ((A.val : Nat) : Int) ((B.val : Nat) : Int) := by decide +kernel
  exact h ⟨A, by omega⟩ ⟨B, by omega⟩
theorem i64_andnI {a b : Int} (h1 : 0 ≤ a) (h2 : a ≤ 31) (h3 : 0 ≤ b) (h4 : b ≤ 31) : bits .andNot .i64 a b = andnI a b := by
  obtain ⟨A, rfl⟩ := Int.eq_ofNat_of_zero_le h1
  obtain ⟨B, rfl⟩ := Int.eq_ofNat_of_zero_le h3
  have h : ∀ A : Fin 32, ∀ B : Fin 32, bits .andNot .i64 ((A.val : Nat) : Int) ((B.val : Nat) : Int) = andnI ((A.val : Nat) : Int) ((B.val : Nat) : Int) := by decide +kernel
  exact h ⟨A, by omega⟩ ⟨B, by omega⟩

end Go.Proofs.YtliimglbbiebiaaGreatDoor
end

section
/- Slices of elements of any number of cells: read as a list, owned, appended to. Plain lemmas; of no program. -/
namespace Go.Proofs.YtliimglbbiebiaaGreatDoor
open Go.RowKit

/-- How an element stands as cells. -/
structure Elem (α : Type) where
  enc : α → List Value
  sz : Nat
  len : ∀ x, (enc x).length = sz
  one : ∀ x, ∀ u ∈ enc x, u.oneCell' = true
  pos : 0 < sz

def Elem.cells {α : Type} (E : Elem α) (l : List α) : List Value := l.flatMap E.enc

section
variable {α : Type} (E : Elem α)
theorem Elem.cells_length (l : List α) : (E.cells l).length = l.length * E.sz := by
  unfold Elem.cells
  induction l with
  | nil => simp
  | cons x l ih => rw [List.flatMap_cons, List.length_append, ih, E.len, List.length_cons, Nat.add_mul]; omega
theorem Elem.cells_append (l m : List α) : E.cells (l ++ m) = E.cells l ++ E.cells m := by simp [Elem.cells]
theorem Elem.cells_one (x : α) : E.cells [x] = E.enc x := by simp [Elem.cells]
theorem Elem.cells_at {l : List α} {i : Nat} {x : α} (hx : l[i]? = some x) {j : Nat} {u : Value} (hu : (E.enc x)[j]? = some u) : (E.cells l)[i * E.sz + j]? = some u := by
  induction l generalizing i with
  | nil => simp at hx
  | cons y l ih =>
    unfold Elem.cells at ih ⊢
    rw [List.flatMap_cons]
    cases i with
    | zero =>
      simp only [List.getElem?_cons_zero, Option.some.injEq] at hx
      subst hx
      rw [Nat.zero_mul, Nat.zero_add, List.getElem?_append_left (List.getElem?_eq_some_iff.1 hu).1]
      exact hu
    | succ i =>
      rw [List.getElem?_cons_succ] at hx
      rw [List.getElem?_append_right (by rw [E.len, Nat.add_mul]; omega), E.len, show (i + 1) * E.sz + j - E.sz = i * E.sz + j by rw [Nat.add_mul]; omega]
      exact ih hx
theorem Elem.cells_one_cell (l : List α) : ∀ u ∈ E.cells l, u.oneCell' = true := by
  intro u hu
  obtain ⟨x, _, hx⟩ := List.mem_flatMap.1 hu
  exact E.one x u hx
end

/-- The slice value v reads as the list l. -/
def Rd {α : Type} (E : Elem α) (w : World) (v : Value) (l : List α) : Prop :=
  ∃ A c, v = .slice A l.length c ∧ l.length ≤ c ∧ (l ≠ [] → ∃ b off, A = some ⟨b, off, none⟩ ∧ ∀ i x, l[i]? = some x → ∀ j u, (E.enc x)[j]? = some u → w.cell? ⟨b, off + (i * E.sz + j), none⟩ = some u)

/-- The slice value v owns a row, from block base on, whose elements are those of l. -/
def Own {α : Type} (E : Elem α) (e : TypeId) (base : Nat) (w : World) (v : Value) (l : List α) : Prop := w.ownsRow base e E.sz v l.length (E.cells l)

section
variable {α : Type} {E : Elem α} {e : TypeId} {base : Nat} {w w' : World} {v : Value} {l : List α}

theorem Rd.nil (E : Elem α) (w : World) : Rd E w (.slice none 0 0) [] := ⟨none, 0, rfl, Nat.le_refl _, fun h => absurd rfl h⟩
theorem Rd.cell_lt (h : Rd E w v l) {b : Nat} (hb : v.ownBlock = some b) (hl : l ≠ []) : b < w.heap.size := by
  obtain ⟨A, c, rfl, _, h3⟩ := h
  obtain ⟨b', off, rfl, hc⟩ := h3 hl
  simp [Value.ownBlock] at hb
  subst hb
  cases l with
  | nil => exact absurd rfl hl
  | cons x l =>
    have h0 : ∃ u, (E.enc x)[0]? = some u := ⟨_, List.getElem?_eq_getElem (by rw [E.len]; exact E.pos)⟩
    obtain ⟨u, hu⟩ := h0
    exact World.block_lt_of_cell? w _ (hc 0 x rfl 0 u hu)
theorem Rd.keep (h : Rd E w v l) (hk : ∀ b, v.ownBlock = some b → l ≠ [] → w'.heap[b]? = w.heap[b]?) : Rd E w' v l := by
  obtain ⟨A, c, rfl, h2, h3⟩ := h
  refine ⟨A, c, rfl, h2, fun hl => ?_⟩
  obtain ⟨b, off, rfl, hc⟩ := h3 hl
  exact ⟨b, off, rfl, fun i x hx j u hu => (World.cell?_of_block (w := w) (hk b rfl hl)).trans (hc i x hx j u hu)⟩
theorem Rd.fr {S : Nat → Prop} (h : Rd E w v l) (hf : Fr S w w') (hS : ∀ b, v.ownBlock = some b → ¬ S b) : Rd E w' v l :=
  h.keep fun b hb hl => hf.block b (h.cell_lt hb hl) (hS b hb)
theorem Rd.new (h : Rd E w v l) (hf : New w w') : Rd E w' v l := h.fr hf fun _ _ => id
theorem Rd.drew (h : Rd E w v l) : Rd E w.drew v l := h
theorem Rd.alloc (h : Rd E w v l) (o : Obj) : Rd E (w.alloc o) v l := h.new ((New.refl w).alloc o)

theorem Own.nil (E : Elem α) (e : TypeId) (base : Nat) (w : World) : Own E e base w (.slice none 0 0) [] := World.ownsRow_nil w base e E.sz
theorem Own.block (h : Own E e base w v l) {b : Nat} (hb : v.ownBlock = some b) : base ≤ b ∧ b < w.heap.size := h.lt b hb
theorem Own.keep (h : Own E e base w v l) (hk : ∀ b, v.ownBlock = some b → w'.heap[b]? = w.heap[b]?) : Own E e base w' v l := by
  refine ⟨h.1, ?_⟩
  rcases h.2 with hn | ⟨g, cap, cur, rfl, hb, hgg, rest⟩
  · exact .inl hn
  · exact .inr ⟨g, cap, cur, rfl, hb, (hk g rfl).trans hgg, rest⟩
theorem Own.fr {S : Nat → Prop} (h : Own E e base w v l) (hf : Fr S w w') (hS : ∀ b, v.ownBlock = some b → ¬ S b) : Own E e base w' v l :=
  h.keep fun b hb => hf.block b (h.block hb).2 (hS b hb)
theorem Own.new (h : Own E e base w v l) (hf : New w w') : Own E e base w' v l := h.fr hf fun _ _ => id
theorem Own.drew (h : Own E e base w v l) : Own E e base w.drew v l := h
theorem Own.alloc (h : Own E e base w v l) (o : Obj) : Own E e base (w.alloc o) v l := h.new ((New.refl w).alloc o)
theorem Own.mono (h : Own E e base w v l) {b' : Nat} (hb : b' ≤ base) : Own E e b' w v l := by
  refine ⟨h.1, ?_⟩
  rcases h.2 with hn | ⟨g, cap, cur, rfl, hg, rest⟩
  · exact .inl hn
  · exact .inr ⟨g, cap, cur, rfl, Nat.le_trans hb hg, rest⟩
theorem Own.rd (h : Own E e base w v l) : Rd E w v l := by
  have hcells := fun {g : Nat} (hg : v.ownBlock = some g) => World.ownsRow.cells h hg
  rcases h.2 with ⟨rfl, hn⟩ | ⟨g, cap, cur, rfl, _, _, hnc, _⟩
  · have : l = [] := List.eq_nil_of_length_eq_zero hn
    subst this
    exact Rd.nil E w
  · refine ⟨_, cap, rfl, hnc, fun _ => ⟨g, 0, rfl, fun i x hx j u hu => ?_⟩⟩
    have := hcells (g := g) rfl (i * E.sz + j) u (E.cells_at hx hu)
    rw [Addr.add_lit] at this
    exact this
theorem Own.form (h : Own E e base w v l) : ∃ A c, v = .slice A l.length c ∧ l.length ≤ c := by
  obtain ⟨A, c, h1, h2, _⟩ := h.rd
  exact ⟨A, c, h1, h2⟩
/-- A row of another element type lies in another block. -/
theorem Own.blk_ne {g : Nat} {t : TypeId} {cs : Array Value} (h : Own E e base w v l) (hg : Blk w g t cs) (hne : e ≠ t) : v.ownBlock ≠ some g := by
  rcases h.2 with ⟨rfl, _⟩ | ⟨g', cap, cur, rfl, _, hh, _⟩
  · simp [Value.ownBlock]
  · intro he
    have : g' = g := by simpa [Value.ownBlock] using he
    subst this
    exact Blk.ne_ (t := e) hh hg hne rfl
end

/-! append at the operation -/
section
variable {P : Program} {α : Type} {E : Elem α} {e : TypeId} {base : Nat} {w : World} {v : Value} {l : List α}
variable {ops : Array Oper} {rest : List Oper} {o : Oper} {a : Act} {Q : Exit → Act → World → Prop}

/-- append(v, x): one element, which stands in a block of its own. -/
theorem wpList_push (hgd : o.guard = none) (s x : Operand) (t : TypeId) (ho : o.op = .call { callee := .builtin .append, args := #[s, x], argTypes := #[t, t] })
    {i : TypeInfo} {z : Value} {bytes : Nat} (ht : P.underlying t = some (.slice e)) (hi : P.info? e = some i) (hz : i.zero = some z)
    (hsize : i.size = E.sz) (hby : i.bytes = bytes) (hzs : z.cells.size = E.sz)
    (h : Own E e base w v l) (hs : a.eval s = v) (y : α) (g : Nat) (hg : Blk w g e (E.enc y).toArray) (c : Nat) (hx : a.eval x = .slice (some ⟨g, 0, none⟩) 1 c)
    (h63 : l.length + 1 ≤ maxLen) (hbytes : (l.length + 1) * bytes ≤ 140737488355328) (hbase : base ≤ w.heap.size)
    (hK : ∀ v' w', Own E e base w' v' (l ++ [y]) → Fr (fun k => v.ownBlock = some k) w w' → (v'.ownBlock = v.ownBlock ∨ v'.ownBlock = some w.heap.size) → wpList P ops Q rest (a.put o.dst v') w') :
    wpList P ops Q (o :: rest) a w := by
  refine wpList_append_own_at w hgd s x t ho base e i z E.sz bytes ht hi hz hsize hby hzs E.pos v l.length (E.cells l) hs h ⟨g, 0, none⟩ 1 c (E.enc y) hx (by rw [E.len]; omega) (fun j u hu => ?_) (E.one y) h63 hbytes hbase (fun v' w' h1 h2 _ h4 => hK v' w' ?_ (Fr.of_grown h2 fun i hi => hi) h4)
  · rw [Addr.add_lit, hg.cell]
    simpa using hu
  · unfold Own
    rw [E.cells_append, E.cells_one, List.length_append]
    exact h1

theorem run_append_of_nil (base : Nat) (t ty e : TypeId) (i : TypeInfo) (size : Nat) (ht : P.underlying t = some (.slice e)) (hi : P.info? e = some i)
    (v : Value) (n : Nat) (xs : List Value) (hown : w.ownsRow base e size v n xs) (c : Nat) : (Builtin.append_ #[t, t] ty #[v, .slice none 0 c]).run P w = .ok v w := by
  rcases hown.2 with ⟨rfl, rfl⟩ | ⟨g, cap, cur, rfl, _, _, hnc, _⟩
  · simp [Builtin.append_, run_underlying ht, sizeOf, typeInfo, hi, Builtin.lenOf, Builtin.firstCells]
  · simp [Builtin.append_, run_underlying ht, sizeOf, typeInfo, hi, Builtin.lenOf, Builtin.firstCells, hnc, storeCells]

/-- append(v, u...): the source is any slice that reads. -/
theorem run_append_list (t ty : TypeId) {i : TypeInfo} {z : Value} {bytes : Nat} (ht : P.underlying t = some (.slice e)) (hi : P.info? e = some i) (hz : i.zero = some z)
    (hsize : i.size = E.sz) (hby : i.bytes = bytes) (hzs : z.cells.size = E.sz)
    (h : Own E e base w v l) {u : Value} {m : List α} (hu : Rd E w u m)
    (h63 : l.length + m.length ≤ maxLen) (hbytes : (l.length + m.length) * bytes ≤ 140737488355328) (hbase : base ≤ w.heap.size) :
    ∃ v' w', (Builtin.append_ #[t, t] ty #[v, u]).run P w = .ok v' w' ∧ Own E e base w' v' (l ++ m) ∧ Fr (fun k => v.ownBlock = some k) w w' ∧ (v'.ownBlock = v.ownBlock ∨ v'.ownBlock = some w.heap.size) := by
  obtain ⟨A, c, rfl, h2, h3⟩ := hu
  rcases A with _ | ad
  · have hm : m = [] := by
      cases m with
      | nil => rfl
      | cons x m => obtain ⟨b, off, hA, _⟩ := h3 (by simp); cases hA
    subst hm
    exact ⟨v, w, run_append_of_nil base t ty e i E.sz ht hi v l.length (E.cells l) h c, by simpa using h, Fr.refl _ _, .inl rfl⟩
  · have hcells : ∀ j u, (E.cells m)[j]? = some u → w.cell? (ad.add j) = some u := by
      intro j u hj
      have hne : m ≠ [] := by rintro rfl; simp [Elem.cells] at hj
      obtain ⟨b, off, hA, hc⟩ := h3 hne
      injection hA with hA
      subst hA
      have hjl : j < (E.cells m).length := (List.getElem?_eq_some_iff.1 hj).1
      rw [E.cells_length] at hjl
      have hp := E.pos
      have hi : j / E.sz < m.length := Nat.div_lt_of_lt_mul (by rw [Nat.mul_comm]; exact hjl)
      have hx : m[j / E.sz]? = some m[j / E.sz] := List.getElem?_eq_getElem hi
      have hu : ∃ u', (E.enc m[j / E.sz])[j % E.sz]? = some u' := ⟨_, List.getElem?_eq_getElem (by rw [E.len]; exact Nat.mod_lt _ hp)⟩
      obtain ⟨u', hu'⟩ := hu
      have h4 := E.cells_at hx hu'
      rw [Nat.div_add_mod' j E.sz, hj] at h4
      injection h4 with h4
      subst h4
      have h5 := hc _ _ hx _ _ hu'
      rw [Nat.div_add_mod' j E.sz] at h5
      rw [Addr.add_lit]
      exact h5
    obtain ⟨v', w', hr, h4, h5, _, h6⟩ := run_append_own_at (P := P) w base t ty e i z E.sz bytes ht hi hz hsize hby hzs E.pos v l.length (E.cells l) h ad m.length c (E.cells m) (E.cells_length m) hcells (E.cells_one_cell m) h63 hbytes hbase
    refine ⟨v', w', hr, ?_, Fr.of_grown h5 fun i hi => hi, h6⟩
    unfold Own
    rw [E.cells_append, List.length_append]
    exact h4

theorem wpList_append (hgd : o.guard = none) (s x : Operand) (t : TypeId) (ho : o.op = .call { callee := .builtin .append, args := #[s, x], argTypes := #[t, t] })
    {i : TypeInfo} {z : Value} {bytes : Nat} (ht : P.underlying t = some (.slice e)) (hi : P.info? e = some i) (hz : i.zero = some z)
    (hsize : i.size = E.sz) (hby : i.bytes = bytes) (hzs : z.cells.size = E.sz)
    (h : Own E e base w v l) (hs : a.eval s = v) {u : Value} {m : List α} (hu : Rd E w u m) (hx : a.eval x = u)
    (h63 : l.length + m.length ≤ maxLen) (hbytes : (l.length + m.length) * bytes ≤ 140737488355328) (hbase : base ≤ w.heap.size)
    (hK : ∀ v' w', Own E e base w' v' (l ++ m) → Fr (fun k => v.ownBlock = some k) w w' → (v'.ownBlock = v.ownBlock ∨ v'.ownBlock = some w.heap.size) → wpList P ops Q rest (a.put o.dst v') w') :
    wpList P ops Q (o :: rest) a w := by
  obtain ⟨v', w', hr, h1, h2, h3⟩ := run_append_list (P := P) t o.type ht hi hz hsize hby hzs h hu h63 hbytes hbase
  refine wpList_plain hgd fun K' hK' => ?_
  unfold Oper.wp execOp
  simp only [ho, resolve, invoke, builtin, Sem.run_bind, Sem.run_pure, Result.andThen_ok, List.map_toArray, List.map_cons, List.map_nil, hs, hx, hr]
  exact hK' _ _ (hK v' w' h1 h2 h3)
end

/-- Two rows apart stay apart while one of them is appended to: the one that is not. -/
theorem Own.apart {α β : Type} {E : Elem α} {E' : Elem β} {e e' : TypeId} {base base' : Nat} {w w2 : World} {vy vn v2 : Value} {l : List α} {m : List β} (hy : Own E e base w vy l) (_hn : Own E' e' base' w vn m)
    (hd : vy.ownBlock = none ∨ vy.ownBlock ≠ vn.ownBlock) (hf : Fr (fun k => vn.ownBlock = some k) w w2) (hl : v2.ownBlock = vn.ownBlock ∨ v2.ownBlock = some w.heap.size) :
    Own E e base w2 vy l ∧ (vy.ownBlock = none ∨ vy.ownBlock ≠ v2.ownBlock) := by
  refine ⟨hy.fr hf fun b hb hs => ?_, ?_⟩
  · rcases hd with hd | hd
    · rw [hd] at hb; cases hb
    · exact hd (hb.trans hs.symm)
  · rcases hd with hd | hd
    · exact .inl hd
    · rcases hl with hl | hl
      · rw [hl]; exact .inr hd
      · rw [hl]
        cases hy' : vy.ownBlock with
        | none => exact .inl rfl
        | some b =>
          refine .inr fun he => ?_
          injection he with he
          have := (hy.block hy').2
          omega
/-- .. seen from the one that is appended to. -/
theorem apart_symm {a b : Option Nat} (h : a = none ∨ a ≠ b) : b = none ∨ b ≠ a := by
  rcases h with h | h
  · subst h
    cases b with
    | none => exact .inl rfl
    | some x => exact .inr (by simp)
  · exact .inr h.symm
/-- Behind an append to a row from block base on, nothing below base has turned. -/
theorem New.append {α : Type} {E : Elem α} {e : TypeId} {a b c : World} {v : Value} {l : List α} (h : New a b) (hv : Own E e a.heap.size b v l) (hf : Fr (fun k => v.ownBlock = some k) b c) : New a c :=
  Fr.trans' h hf fun i hi hs => by have := (hv.block hs).1; omega

theorem Blk.new1 (w : World) (o : Obj) (t : TypeId) (cs : Array Value) : Blk ((w.alloc o).alloc (.cells cs t)) (w.heap.size + 1) t cs := by
  have h := Blk.new (w.alloc o) t cs
  rwa [World.size_alloc] at h
theorem Blk.new2 (w : World) (o o' : Obj) (t : TypeId) (cs : Array Value) : Blk (((w.alloc o).alloc o').alloc (.cells cs t)) (w.heap.size + 2) t cs := by
  have h := Blk.new1 (w.alloc o) o' t cs
  rwa [World.size_alloc] at h

/-- Elements of one cell. -/
def Elem.one1 {α : Type} (enc : α → Value) (h : ∀ x, (enc x).oneCell' = true) : Elem α where
  enc x := [enc x]
  sz := 1
  len _ := rfl
  one x u hu := by rw [List.mem_singleton.1 hu]; exact h x
  pos := Nat.one_pos

end Go.Proofs.YtliimglbbiebiaaGreatDoor
end

section
/- Owned rows: clear behind a place; append of zero values to the nil slice. Plain lemmas; of no program. -/
namespace Go.Proofs.YtliimglbbiebiaaGreatDoor
open Go.RowKit

theorem Elem.cells_take {α : Type} (E : Elem α) (l : List α) (i : Nat) (hi : i ≤ l.length) : (E.cells l).take (i * E.sz) = E.cells (l.take i) := by
  have h : E.cells l = E.cells (l.take i) ++ E.cells (l.drop i) := by rw [← E.cells_append, List.take_append_drop]
  rw [h, List.take_append_of_le_length (by rw [E.cells_length, List.length_take, Nat.min_eq_left hi]; exact Nat.le_refl _)]
  exact List.take_of_length_le (by rw [E.cells_length, List.length_take, Nat.min_eq_left hi]; exact Nat.le_refl _)

theorem zeroCells_size (z : Array Value) (n : Nat) : (Builtin.zeroCells z n).size = n * z.size := by simp [Builtin.zeroCells]
theorem zeroCells_one (z : Array Value) (n : Nat) (h : ∀ u ∈ z.toList, u.oneCell' = true) : ∀ u ∈ (Builtin.zeroCells z n).toList, u.oneCell' = true := by
  intro u hu
  simp only [Builtin.zeroCells, Array.toList_map, List.mem_map] at hu
  obtain ⟨i, hi, rfl⟩ := hu
  have hi' : i < n * z.size := by simpa using hi
  have hz : 0 < z.size := by
    rcases Nat.eq_zero_or_pos z.size with h0 | h0
    · rw [h0] at hi'; omega
    · exact h0
  have hlt := Nat.mod_lt i hz
  rw [getElem!_pos z (i % z.size) hlt]
  exact h _ (Array.mem_toList_iff.2 (Array.getElem_mem hlt))

section
variable {P : Program} {α : Type} {E : Elem α} {e : TypeId} {base : Nat} {w : World} {l : List α}
variable {ops : Array Oper} {rest : List Oper} {o : Oper} {a : Act} {Q : Exit → Act → World → Prop}

theorem run_clear_own {t ty : TypeId} {z : Value} (ht : P.underlying t = some (.slice e)) (hv : ∀ w, (zeroValue e).run P w = .ok z w) (hzs : z.cells.size = E.sz) (hz1 : ∀ u ∈ z.cells.toList, u.oneCell' = true)
    {g n c : Nat} (h : Own E e base w (.slice (some ⟨g, 0, none⟩) n c) l) (i d : Nat) (hi : i < n) :
    ∃ w', (Builtin.clear_ #[t] ty #[.slice (some ⟨g, i * E.sz, none⟩) (n - i) d]).run P w = .ok (.tuple #[]) w' ∧ Own E e base w' (.slice (some ⟨g, 0, none⟩) i c) (l.take i) ∧ Fr (fun k => k = g) w w' := by
  obtain ⟨A, c0, he, _⟩ := Own.form h
  injection he with h1 h2 h3
  subst h1 h2
  rcases h.2 with ⟨h', _⟩ | ⟨g', cap', cur, h', hb, hg, hnc, hcm, hcs, htake⟩
  · simp at h'
  · simp only [Value.slice.injEq, Option.some.injEq, Addr.mk.injEq, and_true, true_and] at h'
    obtain ⟨rfl, rfl⟩ := h'
    have hvl : (Builtin.zeroCells z.cells (l.length - i)).toList.length = (l.length - i) * E.sz := by rw [Array.length_toList, zeroCells_size, hzs]
    have hfit : i * E.sz + 0 + (Builtin.zeroCells z.cells (l.length - i)).toList.length ≤ cur.size := by
      rw [hvl, hcs, Nat.add_zero, ← Nat.add_mul]
      exact Nat.mul_le_mul_right _ (by omega)
    have hst := run_storeCells_at (P := P) g (i * E.sz) e (Builtin.zeroCells z.cells (l.length - i)).toList 0 cur w hg hfit (zeroCells_one _ _ hz1)
    obtain ⟨m, hm⟩ : ∃ m, l.length - i = m + 1 := ⟨l.length - i - 1, by omega⟩
    refine ⟨w.setRow g (cur.toList.take (i * E.sz + 0) ++ (Builtin.zeroCells z.cells (l.length - i)).toList ++ cur.toList.drop (i * E.sz + 0 + (Builtin.zeroCells z.cells (l.length - i)).toList.length)).toArray, ?_, ?_, ?_⟩
    · rw [hm] at hst ⊢
      simp only [Builtin.clear_, run_underlying ht, hv, hst, Sem.run_bind, Sem.run_pure, Result.andThen_ok, List.getElem?_toArray, List.getElem?_cons_zero]
    · unfold Own
      have hlt : (l.take i).length = i := by rw [List.length_take]; omega
      rw [hlt]
      refine ⟨by rw [E.cells_length, hlt], .inr ⟨g, c, _, rfl, hb, setRow_heap w g cur _ e (0, 0) hg, by omega, hcm, ?_, ?_⟩⟩
      · have hcl : cur.toList.length = c * E.sz := by rw [Array.length_toList, hcs]
        simp only [List.size_toArray, List.length_append, List.length_take, List.length_drop, hcl]
        rw [hcs] at hfit
        omega
      · simp only [Nat.add_zero, List.append_assoc]
        have hle : i * E.sz ≤ cur.toList.length := by
          rw [Array.length_toList, hcs]
          exact Nat.mul_le_mul_right _ (by omega)
        rw [List.take_append_of_le_length (by rw [List.length_take]; omega), List.take_of_length_le (by rw [List.length_take]; omega)]
        rw [← E.cells_take l i (by omega), ← htake, List.take_take]
        congr 1
        have : i * E.sz ≤ l.length * E.sz := Nat.mul_le_mul_right _ (by omega)
        omega
    · exact ⟨rfl, rfl, rfl, by simp, fun k _ hk => setRow_other w g k _ hk⟩

theorem wpList_clear (hgd : o.guard = none) (s : Operand) (t : TypeId) (ho : o.op = .call { callee := .builtin .clear, args := #[s], argTypes := #[t] })
    {z : Value} (ht : P.underlying t = some (.slice e)) (hv : ∀ w, (zeroValue e).run P w = .ok z w) (hzs : z.cells.size = E.sz) (hz1 : ∀ u ∈ z.cells.toList, u.oneCell' = true)
    {g n c : Nat} (h : Own E e base w (.slice (some ⟨g, 0, none⟩) n c) l) (i d : Nat) (hi : i < n) (hs : a.eval s = .slice (some ⟨g, i * E.sz, none⟩) (n - i) d)
    (hK : ∀ w', Own E e base w' (.slice (some ⟨g, 0, none⟩) i c) (l.take i) → Fr (fun k => k = g) w w' → wpList P ops Q rest (a.put o.dst (.tuple #[])) w') :
    wpList P ops Q (o :: rest) a w := by
  obtain ⟨w', hr, h1, h2⟩ := run_clear_own (P := P) (ty := o.type) ht hv hzs hz1 h i d hi
  refine wpList_plain hgd fun K' hK' => ?_
  unfold Oper.wp execOp
  simp only [ho, resolve, invoke, builtin, Sem.run_bind, Sem.run_pure, Result.andThen_ok, List.map_toArray, List.map_cons, List.map_nil, hs, hr]
  exact hK' _ _ (hK w' h1 h2)

/-- append(nil, make([]T, n)...): an empty row with room behind a cut to length 0. -/
theorem run_grow_nil (w : World) (t tn ty : TypeId) {i : TypeInfo} {z : Value} {bytes : Nat} (ht : P.underlying t = some (.slice e)) (htn : P.underlying tn = some (.int .i64)) (hi : P.info? e = some i) (hz : i.zero = some z)
    (hsize : i.size = E.sz) (hby : i.bytes = bytes) (hzs : z.cells.size = E.sz) (n : Nat) (h0 : 0 < n) (hn : n ≤ 1000000) (hb : bytes ≤ 1000) (hbase : base ≤ w.heap.size) :
    ∃ w' c, (Builtin.append_ #[t, tn] ty #[.slice none 0 0, .int .i64 n]).run P w = .ok (.slice (some ⟨w.heap.size, 0, none⟩) n c) w' ∧ n ≤ c ∧ c ≤ maxLen ∧ Own E e base w' (.slice (some ⟨w.heap.size, 0, none⟩) 0 c) [] ∧ New w w' := by
  have hold : (Builtin.firstCells i.size 0 (.slice none 0 0)).run P w.drew = .ok ([] : List Value).toArray w.drew := run_firstCells_none _ _ _ _ _
  have hnx : Builtin.nextslicecap (0 + n) 0 = n := by unfold Builtin.nextslicecap; rw [if_pos (by omega), Nat.zero_add]
  have hmul : n * i.bytes ≤ 1000000 * 1000 := Nat.mul_le_mul hn (by omega)
  have h := Lib.run_append_grow_zeros w t tn ty e i z .i64 .i64 ht htn hi hz none 0 0 [] hold n h0 (by rw [hsize]; exact E.pos) (by omega) (by omega) (by omega) (by rw [hnx]; omega)
  rw [Nat.zero_add] at h
  have hge := grownCap_ge w n 0 e
  have hle := grownCap_le_maxLen w n 0 e (by unfold maxLen; omega)
  refine ⟨_, _, h, hge, hle, ?_, ((New.refl w).drew).alloc _⟩
  unfold Own
  refine World.ownsRow_made (base := base) (e := e) (size := E.sz) w.drew _ _ hbase hle ?_
  rw [Array.size_append, Array.size_append, zeroCells_size, zeroCells_size, hzs, Nat.add_assoc, ← Nat.add_mul]
  have : n + (grownCap w n 0 e - n) = grownCap w n 0 e := by omega
  rw [this]
  simp
end

end Go.Proofs.YtliimglbbiebiaaGreatDoor
end

section
/- Integers of a kind as elements of slices. Plain lemmas; of no program. -/
namespace Go.Proofs.YtliimglbbiebiaaGreatDoor
open Go.RowKit

def intE (q : IntKind) : Elem Int where
  enc x := [.int q x]
  sz := 1
  len _ := rfl
  one x u hu := by simp at hu; subst hu; rfl
  pos := by omega

section
variable {q : IntKind} {w w' : World} {v : Value} {l : List Int} {e : TypeId} {base : Nat}

/-- The cells of a slice that reads as integers. -/
theorem Rd.ints (h : Rd (intE q) w v l) : ∃ A c, v = .slice A l.length c ∧ l.length ≤ c ∧ (l ≠ [] → ∃ b off, A = some ⟨b, off, none⟩ ∧ ∀ i x, l[i]? = some x → w.cell? ⟨b, off + i, none⟩ = some (.int q x)) := by
  obtain ⟨A, c, rfl, hc, hcells⟩ := h
  refine ⟨A, c, rfl, hc, fun hl => ?_⟩
  obtain ⟨b, off, rfl, hcell⟩ := hcells hl
  refine ⟨b, off, rfl, fun i x hx => ?_⟩
  have := hcell i x hx 0 _ rfl
  simpa [intE] using this

theorem Own.some1 {A : Option Addr} {n c : Nat} (h : Own (intE q) e base w (.slice A n c) l) (hl : 0 < n) : ∃ g, A = some ⟨g, 0, none⟩ := by
  rcases h.2 with ⟨h1, _⟩ | ⟨g, _, _, h1, _⟩
  · injection h1 with _ h2; omega
  · injection h1 with h2; exact ⟨g, h2⟩

theorem intE_cells (l : List Int) : (intE q).cells l = l.map (Value.int q) := by
  unfold Elem.cells
  induction l with
  | nil => rfl
  | cons x l ih => rw [List.flatMap_cons, ih, List.map_cons]; rfl

theorem Own.icell {g n c : Nat} (h : Own (intE q) e base w (.slice (some ⟨g, 0, none⟩) n c) l) {k : Nat} {x : Int} (hx : l[k]? = some x) : w.cell? ⟨g, k, none⟩ = some (.int q x) := by
  have := World.ownsRow.cells h (g := g) rfl _ _ ((intE q).cells_at hx (j := 0) rfl)
  rw [Addr.add_lit, Nat.zero_add] at this
  simpa [intE] using this
theorem Own.ifrozen {g n c : Nat} (h : Own (intE q) e base w (.slice (some ⟨g, 0, none⟩) n c) l) (j : Nat) : w.frozen? ⟨g, j, none⟩ = false := by
  obtain ⟨A, c', he, _⟩ := Own.form h
  injection he with h1 h2 h3
  subst h2
  exact World.ownsRow.frozenAt h j
theorem Own.istored {g n c : Nat} (h : Own (intE q) e base w (.slice (some ⟨g, 0, none⟩) n c) l) (k : Nat) (y : Int) : Own (intE q) e base (w.setCell ⟨g, k, none⟩ (.int q y)) (.slice (some ⟨g, 0, none⟩) n c) (l.set k y) := by
  obtain ⟨A, c', he, _⟩ := Own.form h
  injection he with h1 h2 h3
  subst h2
  unfold Own at h ⊢
  have h2 := (h.stored k (.int q y)).1
  rw [List.length_set]
  rw [intE_cells] at h2 ⊢
  rw [List.map_set]
  exact h2
end

theorem Own.iempty (q : IntKind) (e : TypeId) (base : Nat) (w : World) (hb : base ≤ w.heap.size) : Own (intE q) e base (w.alloc (.cells #[] e)) (.slice (some ⟨w.heap.size, 0, none⟩) 0 0) [] := by
  unfold Own
  exact World.ownsRow_made w #[] 0 hb (Nat.zero_le _) (by simp)

theorem take_snocI {l : List Int} {k : Nat} {x : Int} (h : l[k]? = some x) : l.take (k + 1) = l.take k ++ [x] := by
  have hk : k < l.length := (List.getElem?_eq_some_iff.1 h).1
  rw [List.take_succ_eq_append_getElem hk, (List.getElem?_eq_some_iff.1 h).2]

end Go.Proofs.YtliimglbbiebiaaGreatDoor
end

section
/- Small words on rows, blocks and functions. Plain lemmas; of no program's text. -/
namespace Go.Proofs.YtliimglbbiebiaaGreatDoor
open Go.RowKit

theorem own_shape {α : Type} {E : Elem α} {e : TypeId} {base : Nat} {w : World} {v : Value} {l : List α} (h : Own E e base w v l) : ∃ A n c, v = .slice A n c := by
  obtain ⟨A, c, h, _⟩ := h.form
  exact ⟨A, _, c, h⟩

theorem fr_or {S T : Nat → Prop} {a b : World} (h : Fr S a b) (hT : ∀ i, S i → T i) : Fr T a b := h.mono fun i _ => hT i

/-- What turned nothing turned none but S. -/
theorem New.to {S : Nat → Prop} {a b : World} (h : New a b) : Fr S a b := h.mono fun _ _ h => h.elim

/-- Only blocks that are new to the earlier world have turned: nothing of the earlier world has. -/
theorem New.two {S : Nat → Prop} {a b c : World} (h : New a b) (k : Fr S b c) (hS : ∀ i, S i → a.heap.size ≤ i) : New a c := Fr.trans' h k fun i hi hs => by have := hS i hs; omega

theorem Own.empty {α : Type} (E : Elem α) (e : TypeId) (base : Nat) (w : World) (hb : base ≤ w.heap.size) : Own E e base (w.alloc (.cells #[] e)) (.slice (some ⟨w.heap.size, 0, none⟩) 0 0) [] := by
  unfold Own
  exact World.ownsRow_made w #[] 0 hb (Nat.zero_le _) (by simp)

/-- A whole block of elements reads as its list. -/
theorem rd_block {α : Type} (E : Elem α) {w : World} {g : Nat} {t : TypeId} {cs : Array Value} (h : Blk w g t cs) (l : List α) (hcs : cs.toList = E.cells l) : Rd E w (.slice (some ⟨g, 0, none⟩) l.length l.length) l := by
  refine ⟨_, _, rfl, Nat.le_refl _, fun _ => ⟨g, 0, rfl, fun i x hx j u hu => ?_⟩⟩
  rw [h.cell, Nat.zero_add, ← Array.getElem?_toList, hcs]
  exact E.cells_at hx hu

theorem enters (f : Nat) (fn : Func) (c : Code) (hf : Tryz.prog.funcs[f]? = some fn) (hn : (fn.name == "runtime.NumGoroutine") = false) (hb : fn.body = some c) (args : Array Value) (w : World) : (callFunc f args).run Tryz.prog w = .ok (.enter f args) w := by
  have h1 : fn.name ≠ "runtime.NumGoroutine" := by simpa using hn
  simp [callFunc, hf, h1, hb]

end Go.Proofs.YtliimglbbiebiaaGreatDoor
end

