/- A part of the proof: RangeOf, RangeIn, Frame4, Task1, Task2. -/
import Derived.RangeFuncNested
import Derived.RangeFuncBound
import Derived.RangeFuncCalls
import Derived.RangeFuncLeaves
import Derived.Test.YtliimglbbiebiaaGreatDoorGTopFullAB
import Derived.OwnWalkIn
import Derived.TacticsInMore
import Derived.LoopNIn
import Derived.LoopIn
import Derived.Shelf.Abstract
import Derived.Shelf.RegionOpen
import Derived.WalkKit
import Derived.Test.YtliimglbbiebiaaGreatDoorGTopFullAV
import Derived.Test.YtliimglbbiebiaaGreatDoorGTopFullAQ
import Derived.Test.YtliimglbbiebiaaGreatDoorGTopFullAR

section
/- A range over a function whose iterator is walked for this one loop's own invariant (so the iterator may write memory that lay ahead of the loop, and need not end by itself). A plain law, of no program; its conditions are its hypotheses. -/
namespace Go.Proofs.YtliimglbbiebiaaGreatDoor
open Go.RowKit

/-- The loop's record lies at l, the empty list of the rounds' deferred calls at D. -/
def Bk (D l : Nat) (r : Loop) (w : World) : Prop := w.heap[l]? = some (.loop r) ∧ w.heap[D]? = some (.deferred (some []))

theorem Bk.keep {B D l : Nat} {r : Loop} {w w' : World} (h : Bk D l r w) (hD : B ≤ D) (hl : B ≤ l) (k : KeepsFrom B w w') : Bk D l r w' :=
  ⟨k.same l _ hl h.1 rfl, k.same D _ hD h.2 rfl⟩
theorem Bk.lt {D l : Nat} {r : Loop} {w : World} (h : Bk D l r w) : l < w.heap.size := (Array.getElem?_eq_some_iff.1 h.1).1
theorem Bk.put {D l : Nat} {r : Loop} {w : World} (h : Bk D l r w) (hne : D ≠ l) (r' : Loop) : Bk D l r' (w.putObj l (.loop r')) :=
  ⟨World.putObj_heap_same h.lt, (World.putObj_heap_other hne).trans h.2⟩

/-- How a round's body may be left. -/
def ofPost {α : Type} (B : Nat) (I : List α → World → Prop) (Ix : Code → List α → World → Prop) (xs : List α) (W : World) : Exit → Act → World → Prop
  | .normal, _, W' => KeepsFrom B W W' ∧ I xs W'
  | .ret, _, W' => KeepsFrom B W W' ∧ Ix .ret xs W'
  | .exit i, _, W' => KeepsFrom B W W' ∧ Ix (.exit i) xs W'
  | .goto t, _, W' => KeepsFrom B W W' ∧ Ix (.goto t) xs W'
  | .panic _, _, _ => False
  | .outgrown, _, _ => False

/-- What a round hands back to the iterator. -/
def OfYield {α : Type} (D l : Nat) (rec : LoopState → Option Code → Loop) (I : List α → World → Prop) (Ix : Code → List α → World → Prop) (xs : List α) (e : Ending) (W : World) : Prop :=
  (e = .returned (.bool true) ∧ I xs W ∧ Bk D l (rec .ready none) W) ∨ (e = .returned (.bool false) ∧ ∃ c, Ix c xs W ∧ Bk D l (rec .done (some c)) W)

section
variable {F : Fence} {n : Nat} {P : Program} {α : Type}

/-- The body's walk, behind the mark that the round has begun, ends the round. -/
theorem ofPost_round {B D l : Nat} {rec : LoopState → Option Code → Loop} (hrec : ∀ s p s' p', { rec s p with state := s', pending := p' } = rec s' p') {I : List α → World → Prop} {Ix : Code → List α → World → Prop}
    (hI : OwnFrom B I) (hIx : ∀ c, OwnFrom B (Ix c)) (hD : B ≤ D) (hl : B ≤ l) (hne : D ≠ l) {xs : List α} {W W3 : World} {e : Exit} {a3 : Act}
    (hb : Bk D l (rec .busy none) W) (h : ofPost B I Ix xs W e a3 W3) : roundPost P l (OfYield D l rec I Ix xs) e a3 W3 := by
  have fin : ∀ jump : Option Code, KeepsFrom B W W3 → ∃ W4, (Instr.endRound l jump).run P W3 = .ok (.bool jump.isNone) W4 ∧ Bk D l (rec (if jump.isNone then .ready else .done) jump) W4 ∧
      W4 = W3.putObj l (.loop (rec (if jump.isNone then .ready else .done) jump)) ∧ W3.heap[l]? = some (.loop (rec .busy none)) := by
    intro jump k
    have b3 := hb.keep hD hl k
    have run := run_endRound (P := P) jump b3.1
    rw [hrec] at run
    exact ⟨_, run, b3.put hne _, rfl, b3.1⟩
  cases e with
  | panic c => exact h.elim
  | outgrown => exact h.elim
  | normal =>
    obtain ⟨W4, run, b4, rfl, h3⟩ := fin none h.1
    exact ⟨_, _, run, .inl ⟨rfl, hI.putObj _ h.2 hl h3 rfl, b4⟩⟩
  | ret =>
    obtain ⟨W4, run, b4, rfl, h3⟩ := fin (some .ret) h.1
    exact ⟨_, _, run, .inr ⟨rfl, _, (hIx _).putObj _ h.2 hl h3 rfl, b4⟩⟩
  | exit i =>
    obtain ⟨W4, run, b4, rfl, h3⟩ := fin (some (.exit i)) h.1
    exact ⟨_, _, run, .inr ⟨rfl, _, (hIx _).putObj _ h.2 hl h3 rfl, b4⟩⟩
  | goto t =>
    obtain ⟨W4, run, b4, rfl, h3⟩ := fin (some (.goto t)) h.1
    exact ⟨_, _, run, .inr ⟨rfl, _, (hIx _).putObj _ h.2 hl h3 rfl, b4⟩⟩

theorem wpIn_rangeFunc_of {g : Operand} {ps : Array Tmp} {assign body : Code} {Q : Exit → Act → World → Prop} {a : Act} {w : World}
    (hro : F.round = none) (h1 : 1 ≤ n) {gf : Nat} {lb : Array Value} (hg : a.eval g = .func (.func gf) #[] lb) (hFg : F.fn gf) (eg : ∀ args w, (callFunc gf args).run P w = .ok (.enter gf args) w)
    {encs : α → Array Value} (hps : ∀ x, (encs x).size = ps.size) {S Sp : List α → Prop}
    (I : List α → World → Prop) (J : List α → α → World → Prop) (Ix : Code → List α → World → Prop) (hI : OwnFrom w.heap.size I) (hJ : ∀ pre x, OwnFrom w.heap.size (fun (_ : Unit) W => J pre x W)) (hIx : ∀ c, OwnFrom w.heap.size (Ix c)) (h0 : I [] w)
    (hseq : ∀ (l : Nat) (K : World → Prop) (Kx : Code → World → Prop) (W1 : World), Below w.heap.size w W1 →
      (∀ A B, K A → KeepsFrom w.heap.size A B → K B) → (∀ c A B, Kx c A → KeepsFrom w.heap.size A B → Kx c B) → K W1 → I [] W1 →
      (∀ pre x W, J pre x W → K W → YieldAt F (n - 1 - 1) P l (encs x) W fun e W' => (e = .returned (.bool true) ∧ I (pre ++ [x]) W' ∧ K W') ∨ (e = .returned (.bool false) ∧ ∃ c, Ix c (pre ++ [x]) W' ∧ Kx c W')) →
      CallsIn F (n - 1) P gf (#[.func (.yield l) #[] #[]] ++ lb) W1 fun e W' => (∃ v, e = .returned v) ∧ ((∃ xs, S xs ∧ I xs W' ∧ K W') ∨ (∃ pre c, Sp pre ∧ Ix c pre W' ∧ Kx c W')))
    (Ax : α → Act → World → Prop) (hAx : ∀ x a', OwnFrom w.heap.size (fun (_ : Unit) W => Ax x a' W))
    (hassign : ∀ (l : Nat) (pre : List α) (x : α) (W : World) (K : Act → World → Prop), J pre x W → (∀ a' W', KeepsFrom w.heap.size W W' → J pre x W' → Ax x a' W' → K a' W') →
      assign.wpIn (F.inRound l) (n - 1 - 1) P (Exit.then K (fun _ _ _ => False)) { tmps := (ps.zip (encs x)).foldl (fun t (p, v) => t.setIfInBounds p v) a.tmps, defers := [] } W)
    (hbody : ∀ (l : Nat) (pre : List α) (x : α) (a' : Act) (W : World), w.heap.size ≤ l → (∃ r, W.heap[l]? = some (.loop r)) → J pre x W → Ax x a' W → body.wpIn (F.inRound l) (n - 1 - 1) P (ofPost w.heap.size I Ix (pre ++ [x]) W) a' W)
    (hdone : ∀ (D : Nat) (xs : List α) (W : World), w.heap.size ≤ D → S xs → I xs W → W.heap[D]? = some (.deferred (some [])) → Q .normal { a with defers := { target := .collected D, args := #[] } :: a.defers } W)
    (hstop : ∀ (D : Nat) (c : Code) (pre : List α) (W : World), w.heap.size ≤ D → Sp pre → Ix c pre W → W.heap[D]? = some (.deferred (some [])) → c.wpIn F n P Q { a with defers := { target := .collected D, args := #[] } :: a.defers } W) :
    (Code.rangeFunc g ps assign body).wpIn F n P Q a w := by
  refine wpIn_rangeFunc fun fn hfn => ?_
  obtain ⟨D, hD⟩ : ∃ D, D = w.heap.size := ⟨_, rfl⟩
  obtain ⟨rec, er⟩ : ∃ rec : LoopState → Option Code → Loop, rec = fun st pe => { state := st, pending := pe, fn := fn, tmps := a.tmps, params := ps, assign := assign, body := body, defers := D } := ⟨_, rfl⟩
  have hrec : ∀ s p s' p', { rec s p with state := s', pending := p' } = rec s' p' := by intro s p s' p'; rw [er]
  obtain ⟨W1, e1⟩ : ∃ W1, W1 = (w.alloc (.deferred (some []))).alloc (.loop (rec .ready none)) := ⟨_, rfl⟩
  have ent : (Instr.enterLoop fn a.tmps ps assign body F.round).run P w = .ok (D + 1, [{ target := .collected D, args := #[] }]) W1 := by
    rw [hro, e1, er, hD]; exact run_enterLoop_outer _ _ _ _ _
  have bk : Bk D (D + 1) (rec .ready none) W1 := by
    rw [e1, hD]
    exact ⟨by have := World.alloc_heap_new (w.alloc (.deferred (some []))) (.loop (rec .ready none)); rwa [World.size_alloc] at this, (Below.heap_alloc _ _ _ (by simp)).trans (World.alloc_heap_new w _)⟩
  have i1 : I [] W1 := by rw [e1]; exact hI.alloc _ (hI.alloc _ h0)
  have b1 : Below w.heap.size w W1 := by rw [e1]; exact ((Below.refl _ w).alloc (Nat.le_refl _) _).alloc (by simp) _
  have hle : w.heap.size ≤ D := by omega
  have hle1 : w.heap.size ≤ D + 1 := by omega
  have hne : D ≠ D + 1 := by omega
  refine ⟨D + 1, _, W1, { target := .fn (.func gf) lb, args := #[.func (.yield (D + 1)) #[] #[]] }, W1, gf, #[.func (.yield (D + 1)) #[] #[]] ++ lb, W1, ent, ?_, ?_, ?_, fun _ => h1, ?_⟩
  · simp only [resolve, hg]; simp [go_sem]
  · intro f' hf'; simp [Target.leads] at hf'; subst hf'; exact hFg
  · simp [invoke, go_sem, eg]
  · refine (hseq (D + 1) (Bk D (D + 1) (rec .ready none)) (fun c => Bk D (D + 1) (rec .done (some c))) W1 b1 (fun A B h k => h.keep hle hle1 k) (fun c A B h k => h.keep hle hle1 k) bk i1 ?round).mono ?_
    case round =>
      intro pre x W hi hk
      have hy := run_yield (P := P) (args := encs x) hk.1 (by rw [er]; exact hps x)
      have ef : (rec .ready none).fn = fn := by rw [er]
      have et : (rec .ready none).tmps = a.tmps := by rw [er]
      have ep : (rec .ready none).params = ps := by rw [er]
      have ea : (rec .ready none).assign = assign := by rw [er]
      have eb : (rec .ready none).body = body := by rw [er]
      rw [ef, et, ep, ea, eb] at hy
      refine ⟨fn, _, assign, body, hy, roundIn_of_wpIn hfn (hassign _ pre x W _ hi fun a' Wa ka ia xa => ?_)⟩
      have ba := hk.keep hle hle1 ka
      refine ⟨_, run_beginRound ba.1 (by rw [er]), ?_⟩
      have eb2 : { rec .ready none with state := .busy } = rec .busy none := by rw [er]
      rw [eb2]
      have b2 := ba.put hne (rec .busy none)
      exact wpIn_mono (hbody _ pre x a' _ hle1 ⟨_, b2.1⟩ ((hJ pre x).putObj (s := ()) _ ia hle1 ba.1 rfl) ((hAx x a').putObj (s := ()) _ xa hle1 ba.1 rfl)) fun e a3 W3 hp => ofPost_round hrec hI hIx hle hle1 hne b2 hp
    rintro e W2 ⟨⟨v, rfl⟩, (⟨xs, hS, hi, hk⟩ | ⟨pre, c, hSp, hi, hk⟩)⟩
    · have run := run_endLoop (P := P) hk.1 (by rw [er]; simp)
      refine ⟨none, _, by rw [run, er], hdone D xs _ hle hS (hI.putObj _ hi hle1 hk.1 rfl) ((World.putObj_heap_other hne).trans hk.2)⟩
    · have run := run_endLoop (P := P) hk.1 (by rw [er]; simp)
      refine ⟨some c, _, by rw [run, er], hstop D c pre _ hle hSp ((hIx c).putObj _ hi hle1 hk.1 rfl) ((World.putObj_heap_other hne).trans hk.2)⟩

end
end Go.Proofs.YtliimglbbiebiaaGreatDoor
end

section
/- What a turn of the loop's own records leaves (for XRangeOf's OwnFrom), and append in a fenced walk. -/
namespace Go.Proofs.YtliimglbbiebiaaGreatDoor
open Go.RowKit Go.Maps

/-- A turn of a block that is no cells, from block B on, or none; and new blocks. -/
def Turn (B : Nat) (W W' : World) : Prop := ∃ row, W.grownBy W' row ∧ ∀ r, row = some r → B ≤ r ∧ ∃ o : Obj, W.heap[r]? = some o ∧ o.isCells = false
theorem ownFrom_of {β : Type} {B : Nat} {I : β → World → Prop} (h : ∀ s W W', I s W → Turn B W W' → I s W') : OwnFrom B I := fun s W W' row hs hg hr => h s W W' hs ⟨row, hg, hr⟩

section
variable {B : Nat} {w0 W W' : World} {S : Nat → Prop}
theorem Turn.fr (h : Turn B W W') (hS : ∀ k, B ≤ k → (∃ o : Obj, W.heap[k]? = some o ∧ o.isCells = false) → S k) : Fr S W W' := by
  obtain ⟨row, hg, hr⟩ := h
  exact Fr.of_grown hg fun i e => hS i (hr i e).1 (hr i e).2
theorem Turn.fr_from (h : Turn B W W') : Fr (fun k => B ≤ k) W W' := h.fr fun _ h _ => h
theorem Turn.fr_odd (h : Turn B W W') : Fr (fun k => ∃ o : Obj, W.heap[k]? = some o ∧ o.isCells = false) W W' := h.fr fun _ _ h => h
theorem Turn.of_fr (h : Turn B W W') (hf : Fr S w0 W) (hB : w0.heap.size ≤ B) : Fr S w0 W' := Fr.trans' hf h.fr_from fun i hi hk => by omega
theorem Turn.blk (h : Turn B W W') {g : Nat} {t : TypeId} {cs : Array Value} (hb : Blk W g t cs) : Blk W' g t cs := Fr.blk h.fr_odd hb fun ⟨o, ho, hc⟩ => by
  unfold Blk at hb
  rw [hb] at ho
  cases ho
  cases hc
theorem Turn.own {α : Type} {E : Elem α} {e : TypeId} {base : Nat} {v : Value} {l : List α} (h : Turn B W W') (ho : Own E e base W v l) : Own E e base W' v l := by
  refine ho.fr h.fr_odd fun g hg ⟨o, h1, hc⟩ => ?_
  rcases ho.2 with ⟨h2, _⟩ | ⟨g', _, cur, h2, _, h3, _⟩
  · rw [h2] at hg; cases hg
  · rw [h2] at hg
    cases hg
    rw [h3] at h1
    cases h1
    cases hc
theorem Turn.map {P : Program} {K : TypeId} {β : Type} [DecidableEq β] {KE : KeyEnc P K β} {b : Nat} {m : List (β × Value)} (h : Turn B W W') (hm : HasMap KE W b m) (hb : b < B) : HasMap KE W' b m := hm.fr h.fr_from (by omega)

/-- What a frame leaves of the loop's records. -/
theorem keeps_fr (hf : Fr S W W') (hS : ∀ k, B ≤ k → S k → ∀ o : Obj, W.heap[k]? = some o → o.isCells = true) : KeepsFrom B W W' :=
  ⟨hf.size, fun k o hB hk ho => by
    by_cases hs : S k
    · rw [hS k hB hs o hk] at ho; cases ho
    · rw [hf.block k (Array.getElem?_eq_some_iff.1 hk).1 hs]; exact hk⟩
theorem keeps_below (hf : Fr S W W') (hS : ∀ k, S k → k < B) : KeepsFrom B W W' := keeps_fr hf fun k h1 h2 => by have := hS k h2; omega
theorem Blk.isCells {g : Nat} {t : TypeId} {cs : Array Value} (h : Blk W g t cs) : ∀ o : Obj, W.heap[g]? = some o → o.isCells = true := fun o ho => by
  unfold Blk at h
  rw [h] at ho
  cases ho
  rfl
theorem Own.isCells {α : Type} {E : Elem α} {e : TypeId} {base : Nat} {v : Value} {l : List α} (ho : Own E e base W v l) {k : Nat} (hk : v.ownBlock = some k) : ∀ o : Obj, W.heap[k]? = some o → o.isCells = true := fun o h1 => by
  rcases ho.2 with ⟨h2, _⟩ | ⟨g', _, cur, h2, _, h3, _⟩
  · rw [h2] at hk; cases hk
  · rw [h2] at hk
    cases hk
    rw [h3] at h1
    cases h1
    rfl
end

section
variable {P : Program} {α : Type} {E : Elem α} {e : TypeId} {base : Nat} {v : Value} {l : List α} {w : World} {F : Fence} {n : Nat}
variable {ops : Array Oper} {rest : List Oper} {o : Oper} {a : Act} {Q : Exit → Act → World → Prop}
theorem wpListIn_append (hgd : o.guard = none) (s x : Operand) (t : TypeId) (ho : o.op = .call { callee := .builtin .append, args := #[s, x], argTypes := #[t, t] })
    {i : TypeInfo} {z : Value} {bytes : Nat} (ht : P.underlying t = some (.slice e)) (hi : P.info? e = some i) (hz : i.zero = some z)
    (hsize : i.size = E.sz) (hby : i.bytes = bytes) (hzs : z.cells.size = E.sz)
    (h : Own E e base w v l) (hs : a.eval s = v) {u : Value} {m : List α} (hu : Rd E w u m) (hx : a.eval x = u)
    (h63 : l.length + m.length ≤ maxLen) (hbytes : (l.length + m.length) * bytes ≤ 140737488355328) (hbase : base ≤ w.heap.size)
    (hK : ∀ v' w', Own E e base w' v' (l ++ m) → Fr (fun k => v.ownBlock = some k) w w' → (v'.ownBlock = v.ownBlock ∨ v'.ownBlock = some w.heap.size) → wpListIn F n P ops Q rest (a.put o.dst v') w') :
    wpListIn F n P ops Q (o :: rest) a w := by
  obtain ⟨v', w', hr, h1, h2, h3⟩ := run_append_list (P := P) t o.type ht hi hz hsize hby hzs h hu h63 hbytes hbase
  refine wpListIn_plain hgd fun K' hK' => ?_
  unfold Oper.wpIn
  refine ⟨by simp [Oper.about, ho, resolve, Target.leads, Sem.run_pure], ?_⟩
  rw [Oper.semAt_plain F _ _ (by rw [ho]; intro c hc'; cases hc')]
  unfold execOp
  simp only [ho, resolve, invoke, builtin, Sem.run_bind, Sem.run_pure, Result.andThen_ok, List.map_toArray, List.map_cons, List.map_nil, hs, hx, hr]
  exact hK' _ _ (hK v' w' h1 h2 h3)
end
end Go.Proofs.YtliimglbbiebiaaGreatDoor
end

section
/- frame.Split, at one whole line. -/
namespace Go.Proofs.YtliimglbbiebiaaGreatDoor
open Go.RowKit

attribute [local go_sem] Oper.semAt_some

structure Frm where
  k : Int
  A : Option Addr
  n : Nat
  c : Nat
def Frm.val (x : Frm) : Value := .agg #[.int .i64 x.k, .slice x.A x.n x.c]
def frmE : Elem Frm where
  enc x := [.int .i64 x.k, .slice x.A x.n x.c]
  sz := 2
  len _ := rfl
  one x u hu := by simp at hu; rcases hu with rfl | rfl <;> rfl
  pos := by omega
theorem frm_info : (Tryz.prog.info? 174).map (fun i => (i.zero, i.size, i.bytes)) = some (some (.agg #[.int .i64 0, .slice none 0 0]), 2, 32) := by kernel_rfl

/-- Owned bytes, as a row. -/
theorem own_bts {base : Nat} {w : World} {v : Value} {l : List UInt8} (h : Own (intE .u8) 5 base w v (nums l)) (hl : l ≠ []) :
    ∃ b off c, v = .slice (some ⟨b, off, none⟩) l.length c ∧ l.length ≤ c ∧ Bts w b off l ∧ v.ownBlock = some b ∧ base ≤ b ∧ b < w.heap.size := by
  obtain ⟨A, c, rfl, hc, h3⟩ := h.rd
  rw [nums_len] at hc
  obtain ⟨b, off, rfl, hcell⟩ := h3 (by cases l <;> simp [nums] at hl ⊢)
  refine ⟨b, off, c, by rw [nums_len], hc, fun i x hx => ?_, rfl, h.block rfl⟩
  have := hcell i (x.toNat : Int) (by unfold nums; rw [List.getElem?_map, hx]; rfl) 0 _ rfl
  have e : (intE .u8).sz = 1 := rfl
  rw [e, Nat.mul_one, Nat.add_zero] at this
  exact this

theorem rd_one {α : Type} {E : Elem α} {w : World} {g : Nat} {t : TypeId} {x : α} (h : Blk w g t (E.enc x).toArray) : Rd E w (.slice (some ⟨g, 0, none⟩) 1 1) [x] := by
  refine ⟨_, 1, rfl, Nat.le_refl _, fun _ => ⟨g, 0, rfl, fun i y hy j u hu => ?_⟩⟩
  have hi : i = 0 := by
    rcases i with _ | i
    · rfl
    · simp at hy
  subst hi
  obtain rfl : x = y := by simpa using hy
  have := h.cell j
  rw [Nat.zero_mul, Nat.zero_add, Nat.zero_add]
  rw [this]
  simpa using hu

theorem fall_any (p : Nat) (w : World) : Calls Tryz.prog 76 #[.pointer (some ⟨p, 0, none⟩)] w fun e w' => e = .returned (.func (.func 105) #[] #[.pointer (some ⟨w.heap.size, 0, none⟩)]) ∧ w' = w.alloc (.cells #[.pointer (some ⟨p, 0, none⟩)] 126) := by
  have hmf : ∀ (fn : Fn) (first cap : Array Value) (w : World), (Instr.makeFunc fn first cap).run Tryz.prog w = .ok (.func fn first cap) w := fun _ _ _ _ => rfl
  go_enter Tryz.func76, Tryz.ntmps76
  go_wp2
  go_ret
  exact ⟨rfl, rfl⟩

set_option maxRecDepth 100000 in
set_option maxHeartbeats 3200000 in
theorem split_line (b off c : Nat) (x : UInt8) (hx : x = 97 ∨ x = 98) (hc : 8 ≤ c) (w : World) (hT : Tabs w) (hb : Bts w b off (wholeL x)) :
    Calls Tryz.prog 48 #[.slice (some ⟨b, off, none⟩) 8 c] w fun e w' => (∃ A C, e = .returned (.tuple #[.slice A 1 C, .int .i64 0])) ∧ New w w' := by
  obtain ⟨i0, hi, hz0, hz1, hz2⟩ := info_parts frm_info
  have hrd : Rd (intE .u8) w (.slice (some ⟨b, off, none⟩) 8 c) (nums (wholeL x)) := hb.rd c hc
  have HT := Lib.hid hT
  clear hT
  refine (callsIn_wide (n := 6)).1 ?_
  refine callsIn_of_wp_marks Tryz.func48 rfl trivial ?_ rfl
  simp only [Tryz.ntmps48, List.size_toArray, List.length_cons, List.length_nil, Nat.reduceAdd, Nat.reduceSub, Array.replicate_succ, Array.replicate_zero, List.push_toArray, List.append_toArray, List.nil_append, List.cons_append]
  gi_wp2_with (first
    | (refine ⟨trivial, ?_⟩; gi_at_call 52
       refine (callsIn_wide.2 (fnew_any _)).mono ?_
       rintro e w1 ⟨rfl, rfl⟩
       have b1 := Blk.new w 176 #[.slice none 0 0, .int .i64 0, .int .i64 0, .int .i64 0]
       have n1 : New w (w.alloc (.cells #[.slice none 0 0, .int .i64 0, .int .i64 0, .int .i64 0] 176)) := (New.refl w).alloc _
       have hrd1 := hrd.alloc (.cells #[.slice none 0 0, .int .i64 0, .int .i64 0, .int .i64 0] 176))
    | (refine ⟨trivial, ?_⟩; gi_at_call 53
       refine (callsIn_wide.2 (feed_nil w.heap.size _ _ _ b1 hrd1 (by rw [nums_len]; show 8 ≤ 100000; omega))).mono ?_
       rintro e w2 ⟨rfl, o2, v2, b2, hv2⟩
       have n2 := New.one n1 o2 (Nat.le_refl _))
    | (refine ⟨trivial, ?_⟩; gi_at_call 76
       refine (callsIn_wide.2 (fall_any w.heap.size _)).mono ?_
       rintro e w3 ⟨rfl, rfl⟩)
    | fail)
  have bO : Blk ((w2.alloc (.cells #[.slice none 0 0] 121)).alloc (.cells #[.pointer (some ⟨w.heap.size, 0, none⟩)] 126)) w2.heap.size 121 #[.slice none 0 0] := (Blk.new _ _ _).alloc _
  have bA : Blk ((w2.alloc (.cells #[.slice none 0 0] 121)).alloc (.cells #[.pointer (some ⟨w.heap.size, 0, none⟩)] 126)) (w2.heap.size + 1) 126 #[.pointer (some ⟨w.heap.size, 0, none⟩)] := Blk.new1 _ _ _ _
  have bS := (b2.alloc (.cells #[.slice none 0 0] 121)).alloc (.cells #[.pointer (some ⟨w.heap.size, 0, none⟩)] 126)
  have hvL := (hv2.alloc (.cells #[.slice none 0 0] 121)).alloc (.cells #[.pointer (some ⟨w.heap.size, 0, none⟩)] 126)
  have nL := (n2.alloc (.cells #[.slice none 0 0] 121)).alloc (.cells #[.pointer (some ⟨w.heap.size, 0, none⟩)] 126)
  have hp2 := b2.lt
  generalize ((w2.alloc (.cells #[.slice none 0 0] 121)).alloc (.cells #[.pointer (some ⟨w.heap.size, 0, none⟩)] 126)) = wL at *
  have hlA := bA.lt
  obtain ⟨g, o, c', rfl, hc', hbt, hob, hg0, hg1⟩ := own_bts hvL (by simp [wholeL])
  have hgp : g ≠ w.heap.size := fun e => hvL.blk_ne bS (by decide) (by rw [← e]; exact hob)
  clear b1 n1 hrd1 o2 b2 n2 hv2
  generalize w2.heap.size = OB at *
  refine wpIn_rangeFunc_of (α := Frm) rfl (by decide) (gf := 105) (lb := #[.pointer (some ⟨OB + 1, 0, none⟩)]) rfl trivial (enters_of Tryz.func105 (by kernel_rfl) rfl) (encs := fun x => #[x.val]) (fun _ => rfl) (S := fun xs => xs.length = 1) (Sp := fun _ => False)
    (fun pre W => pre ≠ [] → (∃ A C, Blk W OB 121 #[.slice A pre.length C]) ∧ New w W ∧ (∃ v, Emp v ∧ Blk W w.heap.size 176 #[v, .int .i64 0, .int .i64 0, .int .i64 0]) ∧ Blk W (OB + 1) 126 #[.pointer (some ⟨w.heap.size, 0, none⟩)])
    (fun pre _ W => pre = [] ∧ Blk W OB 121 #[.slice none 0 0] ∧ New w W ∧ (∃ v, Emp v ∧ Blk W w.heap.size 176 #[v, .int .i64 0, .int .i64 0, .int .i64 0]) ∧ Blk W (OB + 1) 126 #[.pointer (some ⟨w.heap.size, 0, none⟩)])
    (fun _ _ _ => False)
    (ownFrom_of fun s W W' h t hs => by
      obtain ⟨⟨A, C, h1⟩, h2, ⟨v, hv, h3⟩, h4⟩ := h hs
      exact ⟨⟨A, C, t.blk h1⟩, t.of_fr h2 nL.size, ⟨v, hv, t.blk h3⟩, t.blk h4⟩)
    (fun pre x => ownFrom_of fun _ W W' h t => by
      obtain ⟨h0, h1, h2, ⟨v, hv, h3⟩, h4⟩ := h
      exact ⟨h0, t.blk h1, t.of_fr h2 nL.size, ⟨v, hv, t.blk h3⟩, t.blk h4⟩)
    (fun _ => ownFrom_of fun _ _ _ h _ => h) (fun h => absurd rfl h) ?hseq
    (fun x a' W => ∃ Bx, Blk W Bx 174 #[.int .i64 x.k, .slice x.A x.n x.c] ∧ a' = { tmps := #[.slice (some ⟨b, off, none⟩) 8 c, undef, .slice none 0 0, .int .i64 0, .pointer (some ⟨w.heap.size, 0, none⟩), .pointer (some ⟨OB, 0, none⟩), .pointer (some ⟨Bx, 0, none⟩), .pointer (some ⟨w.heap.size, 0, none⟩), .pointer (some ⟨w.heap.size, 0, none⟩), .slice (some ⟨b, off, none⟩) 8 c, .tuple #[], .pointer (some ⟨w.heap.size, 0, none⟩), .func (.func 105) #[] #[.pointer (some ⟨OB + 1, 0, none⟩)], x.val, undef, undef, undef, undef, undef, undef, undef], defers := [] })
    (fun x a' => ownFrom_of fun _ W W' h t => by
      obtain ⟨Bx, h1, h2⟩ := h
      exact ⟨Bx, t.blk h1, h2⟩)
    ?hassign ?hbody ?hdone (fun _ _ _ _ _ h => h.elim)
  case hassign =>
    intro l pre x W K hJ hK
    obtain ⟨h0, h1, h2, ⟨v, hv, h3⟩, h4⟩ := hJ
    unfold Frm.val at hK ⊢
    gi_wp2
    exact hK _ _ ((KeepsOthers.alloc _ _).from _) ⟨h0, h1.alloc _, h2.alloc _, ⟨v, hv, h3.alloc _⟩, h4.alloc _⟩ ⟨W.heap.size, Blk.new _ _ _, rfl⟩
  case hbody =>
    rintro l pre ⟨xk, xA, xn, xc⟩ a' W hl hr ⟨rfl, h1, h2, ⟨v, hv, h3⟩, h4⟩ ⟨Bx, bX, rfl⟩
    have c0 := h1.cell 0
    have c1 : W.cell? ⟨OB, 0, none⟩ = some (.slice none 0 0) := c0
    obtain ⟨x0, x1⟩ := bX.all2
    have hn1 := Own.nil frmE 174 w.heap.size (W.alloc (.cells #[.int .i64 xk, .slice xA xn xc] 174))
    have hr1 : Rd frmE (W.alloc (.cells #[.int .i64 xk, .slice xA xn xc] 174)) (.slice (some ⟨W.heap.size, 0, none⟩) 1 1) [⟨xk, xA, xn, xc⟩] := rd_one (E := frmE) (x := ⟨xk, xA, xn, xc⟩) (t := 174) (Blk.new _ _ _)
    gi_wp2_with (gi_at_builtin; refine wpListIn_append (E := frmE) rfl _ _ _ rfl Tryz.underlying121 hi hz0 hz1 hz2 rfl hn1 rfl hr1 rfl (by unfold maxLen; simp) (by simp) (by have := h2.size; rw [World.size_alloc]; omega) ?_; intro v1 w1 hv1 hf1 hl1; have m1 : New W w1 := Fr.trans ((New.refl W).alloc _) (hf1.mono fun i _ e => by cases e); have e1 := m1.blk h1; have c2 : w1.cell? ⟨OB, 0, none⟩ = some (.slice none 0 0) := e1.cell 0; have f2 : w1.frozen? ⟨OB, 0, none⟩ = false := e1.frozen 0; obtain ⟨A1, C1, rfl, _⟩ := hv1.form)
    refine ⟨keeps_below ((New.to m1).trans ((One.refl OB w1).set 0 _)) (fun k hk => by have hk : k = OB := hk; omega), fun _ => ⟨⟨A1, C1, e1.set_ 0 _⟩, New.one (h2.trans m1) ((One.refl OB w1).set 0 _) (by omega), ⟨v, hv, (m1.blk h3).far (p := ⟨OB, 0, none⟩) (by show w.heap.size ≠ OB; omega) _⟩, (m1.blk h4).far (p := ⟨OB, 0, none⟩) (by show OB + 1 ≠ OB; omega) _⟩⟩
  case hdone =>
    intro D xs W hD hS hI hK
    obtain ⟨⟨A, C, h1⟩, h2, ⟨v, hv, h3⟩, h4⟩ := hI (by rintro rfl; cases hS)
    rw [hS] at h1
    obtain ⟨sA, sc, rfl⟩ := hv
    have c0 : W.cell? ⟨OB, 0, none⟩ = some (.slice A 1 C) := h1.cell 0
    have hD2 : W.drew.heap[D]? = some (.deferred (some [])) := hK
    gi_wp2_with fail
    refine wpIn_wide.2 ?_
    go_region_held3 (fun W' => W'.cell? ⟨OB, 0, none⟩ = some (.slice A 1 C)) (first | go_keep | assumption) ((first
      | (go_at_call 77
         refine (left_any w.heap.size sA 0 sc _ _ _ _ h3.drew).mono ?_
         rintro e w4 ⟨rfl, rfl⟩
         have c4 : W.drew.cell? ⟨OB, 0, none⟩ = some (.slice A 1 C) := c0)
      | fail))
    gi_wp2
    refine ⟨by simp, .inl ⟨_, _, rfl, run_takeDeferred hD2, ?_⟩⟩
    refine ⟨_, results_tmp2 rfl _ _ _, ⟨A, C, rfl⟩, ?_⟩
    exact Fr.trans' h2.drew (Fr.of_grown (S := fun k => D = k) (grownBy_putObj' _ D _) fun i hi => by injection hi) fun i hi hk => by have := nL.size; omega
  case hseq =>
    intro l K Kx W1 hB hKm hKxm k1 i1 hround
    have m1 : New wL W1 := Fr.of_below hB fun i h1 h2 => absurd h1 (by omega)
    have s1 := m1.blk bS
    have a1 := m1.blk bA
    have o1 := m1.blk bO
    have t1 := hbt.new m1
    have ca : W1.cell? ⟨OB + 1, 0, none⟩ = some (.pointer (some ⟨w.heap.size, 0, none⟩)) := a1.cell 0
    have nW := nL.trans m1
    refine callsIn_of_wp Tryz.func105 rfl trivial ?_ rfl
    simp only [Tryz.ntmps105, List.size_toArray, List.length_cons, List.length_nil, Nat.reduceAdd, Nat.reduceSub, Array.replicate_succ, Array.replicate_zero, List.push_toArray, List.append_toArray, List.nil_append, List.cons_append]
    gi_wp2_with fail
    refine wpIn_loop_rounds 2 ?_
    rw [roundsIn_succ]
    gi_wp2_with fail
    refine ⟨trivial, ?_⟩
    refine (callsIn_wide.2 (next_line w.heap.size g o c' x hx hc' hgp W1 (HT.out.new nW) s1 t1 (Nat.lt_of_lt_of_le hg1 m1.size) fun w' o' => HT.out.new (New.one nW o' (Nat.le_refl _)))).mono ?_
    rintro e w3 ⟨d, v, rfl, o3, hd, hv, s3⟩
    obtain ⟨dA, dC, rfl, _⟩ := hd.form
    obtain ⟨fn, tmps, assign, body, hy, hR⟩ := hround [] ⟨1, dA, (nums (lineL x)).length, dC⟩ (w3.alloc (.cells #[.int .i64 1, .slice dA (nums (lineL x)).length dC] 174))
      ⟨rfl, (o3.blk o1 (by omega)).alloc _, (New.one nW o3 (Nat.le_refl _)).alloc _, ⟨v, hv, s3.alloc _⟩, (o3.blk a1 (by omega)).alloc _⟩
      (hKm _ _ k1 (keeps_below (o3.alloc _) fun k hk => by have hk : k = w.heap.size := hk; omega))
    dsimp only [Frm.val] at hy
    gi_wp2_with fail
    refine hR.mono ?_
    rintro e W5 (⟨rfl, hI5, k5⟩ | ⟨rfl, c0, hf, _⟩)
    · obtain ⟨⟨A5, C5, q1⟩, q2, ⟨v5, hv5, q3⟩, q4⟩ := hI5 (by simp)
      have ca5 : W5.cell? ⟨OB + 1, 0, none⟩ = some (.pointer (some ⟨w.heap.size, 0, none⟩)) := q4.cell 0
      clear hR hy hround hd o3 hv s3 s1 a1 o1 t1 ca nW
      gi_wp2_with fail
      rw [roundsIn_succ]
      gi_wp2_with fail
      refine ⟨trivial, ?_⟩
      refine (callsIn_wide.2 (next_empty w.heap.size v5 hv5 W5 q3)).mono ?_
      rintro e w6 ⟨rfl, o6, s6⟩
      gi_wp2
      all_goals
        refine ⟨fun _ h => (by cases h), ?_⟩
        gi_wp2
      all_goals
        refine bodyPost_ret (results_none rfl _ _ _) rfl ?_
        exact ⟨⟨_, rfl⟩, .inl ⟨[⟨1, dA, (nums (lineL x)).length, dC⟩], rfl, fun _ => ⟨⟨A5, C5, (o6.blk q1 (by omega)).alloc _⟩, (New.one q2 o6 (Nat.le_refl _)).alloc _, ⟨v5, hv5, s6.alloc _⟩, (o6.blk q4 (by omega)).alloc _⟩,
          hKm _ _ k5 (keeps_below (o6.alloc _) fun k hk => by have hk : k = w.heap.size := hk; omega)⟩⟩
    · exact hf.elim
end Go.Proofs.YtliimglbbiebiaaGreatDoor
end

section
/- task: Feed, Out, peek. -/
namespace Go.Proofs.YtliimglbbiebiaaGreatDoor
open Go.RowKit

abbrev Tsk (w : World) (t : Nat) (bz : Bool) (c : Cmd) (ms : ByteArray) (nd : Value) (x sp lk : Nat) (a b : Int) (ah out : Value) : Prop :=
  Blk w t 131 #[.bool bz, .string c.t, .int .i64 c.k, .string c.m, .slice c.sA c.sn c.sc, .int .i64 c.it, .int .i64 c.mo, .bool c.si, .int .u8 c.fl, .slice c.dA c.dn c.dc, .string ms, nd, .pointer (some ⟨x, 0, none⟩), .pointer (some ⟨sp, 0, none⟩), .pointer (some ⟨lk, 0, none⟩), .int .i64 a, .int .i64 b, ah, out]
def cmdZ : Cmd := ⟨⟨#[]⟩, 0, ⟨#[]⟩, none, 0, 0, 0, 0, false, 0, none, 0, 0⟩
abbrev Spl (w : World) (sp : Nat) (v : Value) : Prop := Blk w sp 176 #[v, .int .i64 0, .int .i64 0, .int .i64 0]

section
variable {w : World} {t : Nat} {bz : Bool} {c : Cmd} {ms : ByteArray} {nd : Value} {x sp lk : Nat} {a b : Int} {ah out : Value}

theorem tfeed_nil (h : Tsk w t bz c ms nd x sp lk a b ah out) (hs : Spl w sp (.slice none 0 0)) (u : Value) (l : List Int) (hu : Rd (intE .u8) w u l) (hl : l.length ≤ 100000) :
    Calls Tryz.prog 30 #[.pointer (some ⟨t, 0, none⟩), u] w fun e w' => e = .returned (.tuple #[]) ∧ One sp w w' ∧ ∃ v, Spl w' sp v ∧ Own (intE .u8) 5 w.heap.size w' v l := by
  have c13 : w.cell? ⟨t, 13, none⟩ = some (.pointer (some ⟨sp, 0, none⟩)) := h.cell 13
  have hcall := feed_nil sp u l w hs hu hl
  go_enter Tryz.func30, Tryz.ntmps30
  go_wp2_with (go_at_call 53; refine hcall.mono ?_; rintro e w1 ⟨rfl, o1, v, h1, hv⟩)
  go_end0
  exact ⟨rfl, o1, v, h1, hv⟩

theorem tout_any (l : List Int) (h : Tsk w t bz c ms nd x sp lk a b ah out) (ho : Rd (intE .u8) w out l) (hl : l.length ≤ 100000) :
    Calls Tryz.prog 46 #[.pointer (some ⟨t, 0, none⟩)] w fun e w' => ∃ v, e = .returned v ∧ Own (intE .u8) 5 w.heap.size w' v l ∧ New w w' := by
  have c18 : w.cell? ⟨t, 18, none⟩ = some out := h.cell 18
  have hcall := bclone_any out l w ho hl
  go_enter Tryz.func46, Tryz.ntmps46
  go_wp2_with (go_at_call 75; refine hcall.mono ?_; rintro e w1 ⟨v, rfl, hv, n1⟩)
  go_ret
  exact ⟨v, rfl, hv, n1⟩

set_option maxRecDepth 100000 in
set_option maxHeartbeats 1600000 in
theorem peek_empty (h : Tsk w t bz c ms nd x sp lk a b (.slice none 0 0) out) (v : Value) (hv : Emp v) (hs : Spl w sp v) :
    Calls Tryz.prog 109 #[.pointer (some ⟨t, 0, none⟩)] w fun e w' => e = .returned (.tuple #[.agg #[.int .i64 0, .slice none 0 0], .bool false]) ∧ One sp w w' ∧ Spl w' sp v := by
  have n0 : New w (w.alloc (.cells #[.int .i64 0, .slice none 0 0] 174)) := (New.refl w).alloc _
  have r0 : Blk (w.alloc (.cells #[.int .i64 0, .slice none 0 0] 174)) w.heap.size 174 #[.int .i64 0, .slice none 0 0] := Blk.new _ _ _
  have h0 := n0.blk h
  have hs0 := n0.blk hs
  have hlt := hs.lt
  have c13 : (w.alloc (.cells #[.int .i64 0, .slice none 0 0] 174)).cell? ⟨t, 13, none⟩ = some (.pointer (some ⟨sp, 0, none⟩)) := h0.cell 13
  have c17 : (w.alloc (.cells #[.int .i64 0, .slice none 0 0] 174)).cell? ⟨t, 17, none⟩ = some (.slice none 0 0) := h0.cell 17
  go_enter Tryz.func109, Tryz.ntmps109
  go_wp2_with fail
  refine (next_empty sp v hv _ hs0).mono ?_
  rintro e w1 ⟨rfl, o1, s1⟩
  have r1 := o1.blk r0 (by omega)
  have r2 := r1.alloc (.cells #[.int .i64 0, .slice none 0 0] 174)
  have s2 := s1.alloc (.cells #[.int .i64 0, .slice none 0 0] 174)
  have o2 := ((New.to n0).trans o1).alloc (.cells #[.int .i64 0, .slice none 0 0] 174)
  have g2 := Blk.new w1 174 #[.int .i64 0, .slice none 0 0]
  have hss := s1.lt
  clear c13 c17 r0 h0 hs0 n0 o1
  obtain ⟨p0, p1⟩ := r2.all2
  have f2 := r2.froz
  obtain ⟨g0, g1⟩ := g2.all2
  go_wp2
  have hR := r2.over2 (.int .i64 0) (.slice none 0 0)
  refine bodyPost_ret (results_cellt rfl _ _ rfl rfl (loadFr hR)) rfl ⟨rfl, Fr.setCell (Fr.setCell o2 (p := ⟨w.heap.size, 0, none⟩) (fun h => absurd h (Nat.lt_irrefl _)) (.int .i64 0)) (p := ⟨w.heap.size, 1, none⟩) (fun h => absurd h (Nat.lt_irrefl _)) (.slice none 0 0), ?_⟩
  exact (s2.far (p := ⟨w.heap.size, 0, none⟩) (by show sp ≠ w.heap.size; omega) _).far (p := ⟨w.heap.size, 1, none⟩) (by show sp ≠ w.heap.size; omega) _
end
end Go.Proofs.YtliimglbbiebiaaGreatDoor
end

section
/- task: peek, where a frame is there. -/
namespace Go.Proofs.YtliimglbbiebiaaGreatDoor
open Go.RowKit

section
variable {w : World} {t : Nat} {bz : Bool} {c : Cmd} {ms : ByteArray} {nd : Value} {x sp lk : Nat} {a b : Int} {ah out : Value}

set_option maxRecDepth 100000 in
set_option maxHeartbeats 1600000 in
theorem peek_ahead (f : Frm) (base : Nat) (h : Tsk w t bz c ms nd x sp lk a b ah out) (ho : Own frmE 174 base w ah [f]) :
    Calls Tryz.prog 109 #[.pointer (some ⟨t, 0, none⟩)] w fun e w' => e = .returned (.tuple #[f.val, .bool true]) ∧ New w w' := by
  have n0 : New w (w.alloc (.cells #[.int .i64 0, .slice none 0 0] 174)) := (New.refl w).alloc _
  have r0 : Blk (w.alloc (.cells #[.int .i64 0, .slice none 0 0] 174)) w.heap.size 174 #[.int .i64 0, .slice none 0 0] := Blk.new _ _ _
  have h0 := n0.blk h
  have ho0 := (ho.new n0).rd
  obtain ⟨A, C, rfl, hC, hcell⟩ := ho0
  obtain ⟨bb, off, rfl, hcel⟩ := hcell (by simp)
  obtain ⟨fk, fA, fn, fc⟩ := f
  have d0 : (w.alloc (.cells #[.int .i64 0, .slice none 0 0] 174)).cell? ⟨bb, off, none⟩ = some (.int .i64 fk) := hcel 0 _ rfl 0 _ rfl
  have d1 : (w.alloc (.cells #[.int .i64 0, .slice none 0 0] 174)).cell? ⟨bb, off + 1, none⟩ = some (.slice fA fn fc) := hcel 0 _ rfl 1 _ rfl
  have c17 : (w.alloc (.cells #[.int .i64 0, .slice none 0 0] 174)).cell? ⟨t, 17, none⟩ = some (.slice (some ⟨bb, off, none⟩) 1 C) := h0.cell 17
  have hC' : 1 ≤ C := hC
  clear hcell hcel hC
  unfold Frm.val
  go_enter Tryz.func109, Tryz.ntmps109
  go_wp2
  have hR := r0.over2 (.int .i64 fk) (.slice fA fn fc)
  first
  | exact bodyPost_ret (results_cellt rfl _ _ rfl rfl (loadFr hR)) rfl ⟨rfl, Fr.setCell (Fr.setCell n0 (p := ⟨w.heap.size, 0, none⟩) (fun h => absurd h (Nat.lt_irrefl _)) (.int .i64 fk)) (p := ⟨w.heap.size, 1, none⟩) (fun h => absurd h (Nat.lt_irrefl _)) (.slice fA fn fc)⟩
  | exact bodyPost_ret (results_cellt rfl _ _ rfl rfl (loadFr (Blk.new w 174 #[.int .i64 fk, .slice fA fn fc]))) rfl ⟨rfl, (New.refl w).alloc _⟩

set_option maxRecDepth 100000 in
set_option maxHeartbeats 1600000 in
theorem peek_line (h : Tsk w t bz c ms nd x sp lk a b (.slice none 0 0) out) (g off c' : Nat) (y : UInt8) (hy : y = 97 ∨ y = 98) (hc : 8 ≤ c') (hgs : g ≠ sp) (hglt : g < w.heap.size) (hs : Spl w sp (.slice (some ⟨g, off, none⟩) 8 c')) (hb : Bts w g off (wholeL y)) (hts : t ≠ sp) (hT : Tabs w) (hT' : ∀ w', One sp w w' → Tabs w') :
    Calls Tryz.prog 109 #[.pointer (some ⟨t, 0, none⟩)] w fun e w' => ∃ d ah v, e = .returned (.tuple #[.agg #[.int .i64 1, d], .bool true]) ∧ Fr (fun k => k = t ∨ k = sp) w w' ∧ Tsk w' t bz c ms nd x sp lk a b ah out ∧ Spl w' sp v ∧ Emp v ∧
      ∃ dA dC, d = .slice dA 6 dC ∧ Own frmE 174 w.heap.size w' ah [⟨1, dA, 6, dC⟩] ∧ Own (intE .u8) 5 w.heap.size w' d (nums (lineL y)) := by
  obtain ⟨i0, hi, hz0, hz1, hz2⟩ := info_parts frm_info
  have n0 : New w (w.alloc (.cells #[.int .i64 0, .slice none 0 0] 174)) := (New.refl w).alloc _
  have r0 : Blk (w.alloc (.cells #[.int .i64 0, .slice none 0 0] 174)) w.heap.size 174 #[.int .i64 0, .slice none 0 0] := Blk.new _ _ _
  have h0 := n0.blk h
  have hs0 := n0.blk hs
  have hlt := hs.lt
  have htl := h.lt
  have c13 : (w.alloc (.cells #[.int .i64 0, .slice none 0 0] 174)).cell? ⟨t, 13, none⟩ = some (.pointer (some ⟨sp, 0, none⟩)) := h0.cell 13
  have c17 : (w.alloc (.cells #[.int .i64 0, .slice none 0 0] 174)).cell? ⟨t, 17, none⟩ = some (.slice none 0 0) := h0.cell 17
  have hcall := next_line sp g off c' y hy hc hgs _ (hT.new n0) hs0 (hb.new n0) (by rw [World.size_alloc]; omega) (fun w' o => hT' w' ((New.to n0).trans o))
  have HCALL := Lib.hid hcall
  clear hcall hT'
  go_enter Tryz.func109, Tryz.ntmps109
  go_wp2_with fail
  refine HCALL.out.mono ?_
  rintro e w1 ⟨d, v, rfl, o1, hd, hv, s1⟩
  obtain ⟨dA, dC, rfl, hdC⟩ := hd.form
  have hln : (nums (lineL y)).length = 6 := by rw [nums_len, lineL_len]
  rw [hln] at hd ⊢
  have r1 := o1.blk r0 (by omega)
  have t1 := o1.blk h0 hts
  have m1 := (New.to n0).trans o1
  have sz1 := o1.size
  rw [World.size_alloc] at sz1
  have hs0' : w.heap.size + 1 ≤ (w.alloc (.cells #[.int .i64 0, .slice none 0 0] 174)).heap.size := by rw [World.size_alloc]; omega
  have r2 := r1.alloc (.cells #[.int .i64 1, .slice dA 6 dC] 174)
  have t2 := t1.alloc (.cells #[.int .i64 1, .slice dA 6 dC] 174)
  have s2 := s1.alloc (.cells #[.int .i64 1, .slice dA 6 dC] 174)
  have d2 := hd.alloc (.cells #[.int .i64 1, .slice dA 6 dC] 174)
  have m2 := m1.alloc (.cells #[.int .i64 1, .slice dA 6 dC] 174)
  have g2 := Blk.new w1 174 #[.int .i64 1, .slice dA 6 dC]
  have sz2 : (w1.alloc (.cells #[.int .i64 1, .slice dA 6 dC] 174)).heap.size = w1.heap.size + 1 := by rw [World.size_alloc]
  have HLN := Lib.hid hln
  clear hd c13 c17 r0 h0 hs0 n0 o1 r1 t1 s1 m1 hln
  go_wp2_with fail
  generalize (w1.alloc (.cells #[.int .i64 1, .slice dA 6 dC] 174)) = wA at *
  generalize w1.heap.size = F at *
  have SZ2 := Lib.hid sz2
  have hwA : w.heap.size ≤ wA.heap.size := m2.size
  have hFl : w.heap.size + 1 ≤ F := sz1
  clear sz1 sz2 w1
  obtain ⟨g0, g1⟩ := g2.all2
  have c17 : wA.cell? ⟨t, 17, none⟩ = some (.slice none 0 0) := t2.cell 17
  have htA := t2.lt
  have hrA : Rd frmE (wA.alloc (.cells #[.int .i64 1, .slice dA 6 dC] 174)).drew (.slice (some ⟨wA.heap.size, 0, none⟩) 1 1) [⟨1, dA, 6, dC⟩] := rd_one' (E := frmE) (x := ⟨1, dA, 6, dC⟩) (t := 174) (Blk.new wA.drew 174 #[.int .i64 1, .slice dA 6 dC])
  have hbA : w.heap.size ≤ (wA.alloc (.cells #[.int .i64 1, .slice dA 6 dC] 174)).drew.heap.size := by
    show w.heap.size ≤ (wA.alloc (.cells #[.int .i64 1, .slice dA 6 dC] 174)).heap.size
    rw [World.size_alloc]
    omega
  have nA : New wA (wA.alloc (.cells #[.int .i64 1, .slice dA 6 dC] 174)).drew := ((New.refl wA).alloc _).drew
  have HRA := Lib.hid hrA
  have HBA := Lib.hid hbA
  clear hrA hbA
  go_region_law ((first
    | (refine step_append_list (E := frmE) (l := []) (v := .slice none 0 0) (by rfl) (.tmp 27) (.tmp 29) 121 (by rfl) Tryz.underlying121 hi hz0 hz1 hz2 rfl (by rfl) (by rfl) [⟨1, dA, 6, dC⟩] (Own.nil _ _ w.heap.size _) HRA.out (by unfold maxLen; simp) (by simp) HBA.out ?_
       intro A7 C7 w7 ho7 hf7 hl7
       have n7 : New wA w7 := Fr.trans nA (hf7.mono fun _ _ h => by cases h)
       have t7 := n7.blk t2
       have g7 := n7.blk g2
       obtain ⟨q0, q1⟩ := g7.all2
       have z17 : w7.cell? ⟨t, 17, none⟩ = some (.slice none 0 0) := t7.cell 17
       have y17 : w7.frozen? ⟨t, 17, none⟩ = false := t7.frozen 17
       have S0 : ∀ u, (w7.setCell ⟨t, 17, none⟩ u).cell? ⟨F, 0, none⟩ = some (.int .i64 1) ∧ (w7.setCell ⟨t, 17, none⟩ u).cell? ⟨F, 1, none⟩ = some (.slice dA 6 dC) := fun u => ⟨Fr.cell ((One.refl t w7).set 17 u) q0 (by show ¬ F = t; omega), Fr.cell ((One.refl t w7).set 17 u) q1 (by show ¬ F = t; omega)⟩)
    | fail))
  all_goals
    have e8 : ([] ++ [(⟨1, dA, 6, dC⟩ : Frm)]).length = 1 := rfl
    rw [e8] at ho7
    have t8 : Tsk (w7.setCell ⟨t, 17, none⟩ (.slice A7 1 C7)) t bz c ms nd x sp lk a b (.slice A7 1 C7) out := by
      have q := t7.set_ 17 (.slice A7 1 C7)
      simpa using q
    have ho8 := ho7.fr ((One.refl t w7).set 17 (.slice A7 1 C7)) fun z hz e => ho7.blk_ne t7 (by decide) (by have e : z = t := e; rw [← e]; exact hz)
    have r7 := n7.blk r2
    have s7 := n7.blk s2
    have d7 := d2.new n7
    have r8 := r7.far (p := ⟨t, 17, none⟩) (by show w.heap.size ≠ t; omega) (.slice A7 1 C7)
    have s8 := s7.far (p := ⟨t, 17, none⟩) (by show sp ≠ t; exact Ne.symm hts) (.slice A7 1 C7)
    have d8 := d7.fr ((One.refl t w7).set 17 (.slice A7 1 C7)) fun z hz e => d7.blk_ne t7 (by decide) (by have e : z = t := e; rw [← e]; exact hz)
    have m8 : Fr (fun k => k = t ∨ k = sp) w (w7.setCell ⟨t, 17, none⟩ (.slice A7 1 C7)) := Fr.trans (Fr.trans (m2.mono fun k _ h => .inr h) (n7.mono fun _ _ h => h.elim)) ((Fr.refl _ w7).setCell (p := ⟨t, 17, none⟩) (fun _ => .inl rfl) _)
    have l8 : w.heap.size < (w7.setCell ⟨t, 17, none⟩ (.slice A7 1 C7)).heap.size := r8.lt
    have nodup : (Value.slice A7 1 C7).ownBlock ≠ some w.heap.size ∧ (Value.slice dA 6 dC).ownBlock ≠ some w.heap.size := ⟨fun e => ?x1, fun e => ?x2⟩
    case x2 => exact d8.blk_ne r8 (by decide) e
    case x1 =>
      have e' : (Value.slice A7 ([] ++ [(⟨1, dA, 6, dC⟩ : Frm)]).length C7).ownBlock = some w.heap.size := e
      have hr2 := r2.lt
      rw [e'] at hl7
      rcases hl7 with h1 | h1
      · cases h1
      · have h1 := Option.some.inj h1
        have h2 : (wA.alloc (.cells #[.int .i64 1, .slice dA 6 dC] 174)).drew.heap.size = wA.heap.size + 1 := World.size_alloc _ _
        omega
    have HN := Lib.hid nodup
    have M8 := Lib.hid m8
    have D8 := Lib.hid d8
    have O8 := Lib.hid ho8
    clear c17 g0 g1 htA t2 s2 d2 m2 g2 r2 n7 t7 g7 q0 q1 z17 y17 S0 ho7 hf7 hl7 r7 s7 d7 nodup m8 d8 nA
    generalize (w7.setCell ⟨t, 17, none⟩ (.slice A7 1 C7)) = w8 at *
    have ho9 := O8.out.rd
    obtain ⟨A9, C9, he9, hC9, hcel⟩ := ho9
    cases he9
    obtain ⟨bb, off9, rfl, hce⟩ := hcel (by simp)
    have k17 : w8.cell? ⟨t, 17, none⟩ = some (.slice (some ⟨bb, off9, none⟩) 1 C7) := t8.cell 17
    have k0 : w8.cell? ⟨bb, off9, none⟩ = some (.int .i64 1) := hce 0 _ rfl 0 _ rfl
    have k1 : w8.cell? ⟨bb, off9 + 1, none⟩ = some (.slice dA 6 dC) := hce 0 _ rfl 1 _ rfl
    have hC1 : 1 ≤ C7 := hC9
    obtain ⟨p0, p1⟩ := r8.all2
    have f8 := r8.froz
    clear hcel hce hC9
    go_wp2
    have hR := r8.over2 (.int .i64 1) (.slice dA 6 dC)
    have hF := One.over2 w8 w.heap.size (.int .i64 1) (.slice dA 6 dC)
    have hpt : t ≠ w.heap.size := by omega
    have hps : sp ≠ w.heap.size := by omega
    refine bodyPost_ret (results_cellt rfl _ _ rfl rfl (loadFr hR)) rfl ⟨_, .slice (some ⟨bb, off9, none⟩) 1 C7, v, rfl, Fr.trans' M8.out hF (fun i hi e => by have e : i = w.heap.size := e; omega), (t8.far (p := ⟨w.heap.size, 0, none⟩) hpt _).far (p := ⟨w.heap.size, 1, none⟩) hpt _, (s8.far (p := ⟨w.heap.size, 0, none⟩) hps _).far (p := ⟨w.heap.size, 1, none⟩) hps _, hv, dA, dC, rfl, ?_, ?_⟩
    · exact O8.out.fr hF fun z hz e => HN.out.1 (by have e : z = w.heap.size := e; rw [← e]; exact hz)
    · exact (D8.out.mono (Nat.le_of_succ_le hs0')).fr hF fun z hz e => HN.out.2 (by have e : z = w.heap.size := e; rw [← e]; exact hz)
end
end Go.Proofs.YtliimglbbiebiaaGreatDoor
end

