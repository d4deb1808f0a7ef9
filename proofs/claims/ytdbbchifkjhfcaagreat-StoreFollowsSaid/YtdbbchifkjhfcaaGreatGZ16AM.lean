/- Part 13 of the proofs of chapter Z16: Ev, SqueezeP, Split, Squeeze, SqueezeW, EvEq, Queue. -/
import Derived.Test.YtdbbchifkjhfcaaGreatGZ16AL
import Derived.Test.YtdbbchifkjhfcaaGreatRows
import Derived.WalkKit
import Derived.WalkSpells
import Derived.WalkLawsBesides
import Derived.Deep.QuietTactic
import Derived.BigQuiet
import Derived.Shelf.Abstract
import Derived.DeepKeys4
import Derived.KernelRfl
import Derived.ProofKit
import Derived.Lib.SmallJoins
import Derived.MapViews
import Derived.Maps.OwnOps
import Derived.Deep.DeepMust
import Derived.Laws.StructEq

section
/- Events as elements; the names of kinds. -/
namespace Go.Proofs.YtdbbchifkjhfcaaGreat
open Go.RowKit

/-- An event: its kind, its identifier, its flags. -/
structure Ev where
  k : Int
  u : Int
  f : Int
  deriving DecidableEq

def Ev.val (e : Ev) : Value := .agg #[.int .i64 e.k, .int .u32 e.u, .int .u8 e.f]
def evE : Elem Ev where
  enc e := [.int .i64 e.k, .int .u32 e.u, .int .u8 e.f]
  sz := 3
  len _ := rfl
  one x u hu := by simp at hu; rcases hu with rfl | rfl | rfl <;> rfl
  pos := by omega

/-- Each number fits its kind. -/
def Ev.wf (e : Ev) : Prop := (Lit.int .i64 e.k).wf = true ∧ (Lit.int .u32 e.u).wf = true ∧ (Lit.int .u8 e.f).wf = true

theorem ev_info : (Tryz.prog.info? 36).map (fun i => (i.zero, i.size, i.bytes)) = some (some (.agg #[.int .i64 0, .int .u32 0, .int .u8 0]), 3, 16) := by kernel_rfl

/-- The name of a kind. -/
def nameOf (k : Int) : ByteArray := if k = 1 then "arrived".toUTF8 else if k = 2 then "gone".toUTF8 else if k = 3 then "changed".toUTF8 else ⟨#[]⟩

set_option maxHeartbeats 400000 in
theorem name_any (k : Int) (w : World) : Calls Tryz.prog 100 #[.int .i64 k] w fun e w' => e = .returned (.string (nameOf k)) ∧ w = w' := by
  by_cases h1 : k = 1
  · subst h1
    go_enter Tryz.func100, Tryz.ntmps100
    go_wp2
    go_ret
    exact ⟨rfl, rfl⟩
  · by_cases h2 : k = 2
    · subst h2
      go_enter Tryz.func100, Tryz.ntmps100
      go_wp2
      go_ret
      exact ⟨rfl, rfl⟩
    · by_cases h3 : k = 3
      · subst h3
        go_enter Tryz.func100, Tryz.ntmps100
        go_wp2
        go_ret
        exact ⟨rfl, rfl⟩
      · have hn : nameOf k = ⟨#[]⟩ := by simp [nameOf, h1, h2, h3]
        rw [hn]
        clear hn
        have b1 : (k == 1) = false := by simp [h1]
        have b2 : (k == 2) = false := by simp [h2]
        have b3 : (k == 3) = false := by simp [h3]
        go_enter Tryz.func100, Tryz.ntmps100
        go_wp2
        go_ret
        exact ⟨rfl, rfl⟩

theorem nameOf_empty (k : Int) : (nameOf k).toList.isEmpty = !decide (1 ≤ k ∧ k ≤ 3) := by
  by_cases h1 : k = 1
  · subst h1; decide +kernel
  · by_cases h2 : k = 2
    · subst h2; decide +kernel
    · by_cases h3 : k = 3
      · subst h3; decide +kernel
      · have hd : ¬ (1 ≤ k ∧ k ≤ 3) := by omega
        simp only [nameOf, h1, h2, h3, hd, if_false, decide_false, Bool.not_false]
        decide +kernel

set_option maxHeartbeats 400000 in
theorem known_any (v : Ev) (w : World) : Calls Tryz.prog 81 #[v.val] w fun e w' => e = .returned (.bool (decide (1 ≤ v.k ∧ v.k ≤ 3))) ∧ New w w' := by
  have hn := nameOf_empty v.k
  obtain ⟨k, u, f⟩ := v
  unfold Ev.val
  simp only at hn ⊢
  generalize decide (1 ≤ k ∧ k ≤ 3) = b at hn ⊢
  have HN := Lib.hid hn
  clear hn
  go_enter Tryz.func81, Tryz.ntmps81
  go_wp2_with (go_at_call 100; refine (name_any k _).mono ?_; generalize nameOf k = s at HN ⊢; rintro e w' ⟨rfl, rfl⟩)
  go_ret
  refine ⟨?_, (New.refl _).alloc _⟩
  show Ending.returned (.bool (!s.toList.isEmpty)) = _
  rw [HN.out, Bool.not_not]

end Go.Proofs.YtdbbchifkjhfcaaGreat
end

section
/- Squeezing, as a plain function on lists, and what it comes to step by step. No program. -/
namespace Go.Proofs.YtdbbchifkjhfcaaGreat

/-- Is there a later change of the same message? -/
def later (e : Ev) (l : List Ev) : Bool := decide (e.k = 3) && l.any fun x => decide (x.k = 3) && decide (x.u = e.u)

def squeeze : List Ev → List Ev
  | [] => []
  | e :: l => if later e l then squeeze l else e :: squeeze l

theorem drop_cons {α : Type} {l : List α} {k : Nat} {x : α} (h : l[k]? = some x) : l.drop k = x :: l.drop (k + 1) := by
  obtain ⟨hk, rfl⟩ := List.getElem?_eq_some_iff.1 h
  exact List.drop_eq_getElem_cons hk

theorem squeeze_drop {l : List Ev} {k : Nat} {x : Ev} (h : l[k]? = some x) : squeeze (l.drop k) = if later x (l.drop (k + 1)) then squeeze (l.drop (k + 1)) else x :: squeeze (l.drop (k + 1)) := by
  rw [drop_cons h, squeeze]

theorem later_iff {l : List Ev} {k : Nat} {x : Ev} : later x (l.drop k) = true ↔ x.k = 3 ∧ ∃ i y, k ≤ i ∧ l[i]? = some y ∧ y.k = 3 ∧ y.u = x.u := by
  unfold later
  simp only [Bool.and_eq_true, decide_eq_true_eq, List.any_eq_true]
  constructor
  · rintro ⟨h1, y, hy, h2, h3⟩
    obtain ⟨i, hi⟩ := List.mem_iff_getElem?.1 hy
    rw [List.getElem?_drop] at hi
    exact ⟨h1, k + i, y, by omega, hi, h2, h3⟩
  · rintro ⟨h1, i, y, hi, hy, h2, h3⟩
    refine ⟨h1, y, List.mem_iff_getElem?.2 ⟨i - k, ?_⟩, h2, h3⟩
    rw [List.getElem?_drop, show k + (i - k) = i by omega]
    exact hy

theorem squeeze_length (l : List Ev) : (squeeze l).length ≤ l.length := by
  induction l with
  | nil => simp [squeeze]
  | cons e l ih =>
    rw [squeeze]
    split
    · simp; omega
    · simp; exact ih

theorem squeeze_mem {l : List Ev} {x : Ev} (h : x ∈ squeeze l) : x ∈ l := by
  induction l with
  | nil => simp [squeeze] at h
  | cons e l ih =>
    rw [squeeze] at h
    split at h
    · exact List.mem_cons_of_mem _ (ih h)
    · rcases List.mem_cons.1 h with rfl | h
      · simp
      · exact List.mem_cons_of_mem _ (ih h)

end Go.Proofs.YtdbbchifkjhfcaaGreat
end

section
/- split divides a list of events into those that a function accepts and the others, both in new memory. -/
namespace Go.Proofs.YtdbbchifkjhfcaaGreat
open Go.RowKit

/-- Function g, over what it has captured, is the predicate p, in every world in which all that lay in w lies unturned. -/
def IsPred (w : World) (g : Nat) (lb : Array Value) (p : Ev → Bool) : Prop :=
  ∀ (W : World) (x : Ev), New w W → Calls Tryz.prog g (#[x.val] ++ lb) W fun e w' => e = .returned (.bool (p x)) ∧ New W w'

set_option maxHeartbeats 1600000 in
theorem split_any (g : Nat) (lb : Array Value) (p : Ev → Bool) (hE : ∀ args w, (callFunc g args).run Tryz.prog w = .ok (.enter g args) w) (v : Value) (l : List Ev) (w : World) (hp : IsPred w g lb p) (hv : Rd evE w v l) (hl : l.length ≤ 100000) :
    Calls Tryz.prog 62 #[v, .func (.func g) #[] lb] w fun e w' => ∃ y n, e = .returned (.tuple #[y, n]) ∧ Own evE 36 w.heap.size w' y (l.filter p) ∧ Own evE 36 w.heap.size w' n (l.filter fun x => !p x) ∧ New w w' := by
  obtain ⟨A, c, rfl, hc, hcells⟩ := hv
  have HC := Lib.hid hcells
  clear hcells
  obtain ⟨i0, hi, hz0, hz1, hz2⟩ := info_parts ev_info
  go_enter Tryz.func62, Tryz.ntmps62
  go_wp2
  go_loopw [4, 5, 10] (fun vy vn vi wr => ∃ k : Nat, k ≤ l.length ∧ vi = .int .i64 k ∧ Own evE 36 w.heap.size wr vy ((l.take k).filter p) ∧ Own evE 36 w.heap.size wr vn ((l.take k).filter fun x => !p x) ∧
      (vy.ownBlock = none ∨ vy.ownBlock ≠ vn.ownBlock) ∧ New w wr) (fun _ _ vi _ => l.length - (intOf vi).toNat)
  case atStart => exact ⟨0, Nat.zero_le _, rfl, Own.nil _ _ _ _, Own.nil _ _ _ _, .inl rfl, New.refl _⟩
  case round =>
    obtain ⟨k, hk, rfl, hy, hn, hyn, hnew⟩ := hrel
    by_cases hkl : k < l.length
    · obtain ⟨x, hx⟩ : ∃ x, l[k]? = some x := ⟨_, List.getElem?_eq_getElem hkl⟩
      obtain ⟨b, off, rfl, hcell⟩ := HC.out (by rintro rfl; simp at hkl)
      obtain ⟨xk, xu, xf⟩ := x
      have c0 : wr.cell? ⟨b, off + k * 3, none⟩ = some (.int .i64 xk) := Fr.cell hnew (hcell k _ hx 0 _ rfl) id
      have c1 : wr.cell? ⟨b, off + k * 3 + 1, none⟩ = some (.int .u32 xu) := Fr.cell hnew (hcell k _ hx 1 _ rfl) id
      have c2 : wr.cell? ⟨b, off + k * 3 + 2, none⟩ = some (.int .u8 xf) := Fr.cell hnew (hcell k _ hx 2 _ rfl) id
      have HX := Lib.hid hx
      clear hcell hx
      have hcall := hp _ ⟨xk, xu, xf⟩ (hnew.alloc (.cells #[.int .i64 xk, .int .u32 xu, .int .u8 xf] 36))
      have hb0 : Blk (wr.alloc (.cells #[.int .i64 xk, .int .u32 xu, .int .u8 xf] 36)) wr.heap.size 36 #[.int .i64 xk, .int .u32 xu, .int .u8 xf] := Blk.new _ _ _
      have hsz := hnew.size
      have htl : (l.take k).length ≤ k := List.length_take_le _ _
      have hfy : ((l.take k).filter p).length ≤ k := Nat.le_trans (List.length_filter_le _ _) htl
      have hfn : ((l.take k).filter fun x => !p x).length ≤ k := Nat.le_trans (List.length_filter_le _ _) htl
      cases hpx : p ⟨xk, xu, xf⟩
      all_goals
        rw [hpx] at hcall
        have HP := Lib.hid hpx
        have HCALL := Lib.hid hcall
        clear hpx hcall
        go_wp2_with fail
        refine HCALL.out.mono ?_
        rintro e w1 ⟨rfl, hn1⟩
        have hs1 := hn1.size
        rw [World.size_alloc] at hs1
        have hb1 := hn1.blk hb0
        have d0 : w1.cell? ⟨wr.heap.size, 0, none⟩ = some (.int .i64 xk) := hb1.cell 0
        have d1 : w1.cell? ⟨wr.heap.size, 1, none⟩ = some (.int .u32 xu) := hb1.cell 1
        have d2 : w1.cell? ⟨wr.heap.size, 2, none⟩ = some (.int .u8 xf) := hb1.cell 2
        have hy1 := (hy.alloc (.cells #[.int .i64 xk, .int .u32 xu, .int .u8 xf] 36)).new hn1
        have hno1 := (hn.alloc (.cells #[.int .i64 xk, .int .u32 xu, .int .u8 xf] 36)).new hn1
        have hnew1 : New w w1 := (hnew.alloc _).trans hn1
        clear c0 c1 c2 hb0 hy hn hnew HCALL hn1 hb1
      · go_wp2_with (at_builtin; refine wpList_push (E := evE) rfl _ _ _ rfl Tryz.underlying37 hi hz0 hz1 hz2 rfl (hno1.alloc _) rfl ⟨xk, xu, xf⟩ w1.heap.size (Blk.new _ _ _) 1 rfl (by unfold maxLen; omega) (by omega) (by simp; omega) ?_; intro v2 w2 hv2 hf2 hl2)
        have hap := hy1.alloc (.cells #[.int .i64 xk, .int .u32 xu, .int .u8 xf] 36) |>.apart (hno1.alloc _) hyn hf2 hl2
        have hnew2 := New.append (hnew1.alloc _) (hno1.alloc _) hf2
        have et := take_snoc HX.out
        go_roundw
        case rel =>
          refine ⟨k + 1, by omega, by go_num, ?_, ?_, hap.2, hnew2⟩
          · rw [et, List.filter_append]
            simpa [HP.out] using hap.1
          · rw [et, List.filter_append]
            simpa [HP.out] using hv2
        case measure => simp [intOf]; omega
      · go_wp2_with (at_builtin; refine wpList_push (E := evE) rfl _ _ _ rfl Tryz.underlying37 hi hz0 hz1 hz2 rfl (hy1.alloc _) rfl ⟨xk, xu, xf⟩ w1.heap.size (Blk.new _ _ _) 1 rfl (by unfold maxLen; omega) (by omega) (by simp; omega) ?_; intro v2 w2 hv2 hf2 hl2)
        have hap := hno1.alloc (.cells #[.int .i64 xk, .int .u32 xu, .int .u8 xf] 36) |>.apart (hy1.alloc _) (apart_symm hyn) hf2 hl2
        have hnew2 := New.append (hnew1.alloc _) (hy1.alloc _) hf2
        have et := take_snoc HX.out
        go_roundw
        case rel =>
          refine ⟨k + 1, by omega, by go_num, ?_, ?_, apart_symm hap.2, hnew2⟩
          · rw [et, List.filter_append]
            simpa [HP.out] using hv2
          · rw [et, List.filter_append]
            simpa [HP.out] using hap.1
        case measure => simp [intOf]; omega
    · go_wp2
      go_ret2
      have e1 : l.take k = l := List.take_of_length_le (by omega)
      rw [e1] at hy hn
      exact ⟨_, _, rfl, hy, hn, hnew⟩

end Go.Proofs.YtdbbchifkjhfcaaGreat
end

section
/- Squeeze computes squeezing: the map of last places, and the loop that keeps. -/
namespace Go.Proofs.YtdbbchifkjhfcaaGreat
open Go.RowKit Go.Maps

theorem laidOutP : laidOutB Tryz.prog = true := by kernel_rfl
theorem keyRow : 146 < Tryz.prog.types.size := of_decide_eq_true (by kernel_rfl)
theorem keyCells : Tryz.prog.cellsOf 146 = 2 := by kernel_rfl
theorem cellsInt : Tryz.prog.cellsOf 3 = 1 := by kernel_rfl
theorem cellsU32 : Tryz.prog.cellsOf 26 = 1 := by kernel_rfl
theorem keyLaw : Keyed Tryz.prog 146 := Keyed.of_law (deep_law_laid laidOutP (m := 2) (by omega) keyRow (by kernel_rfl) (by kernel_rfl))
theorem keyT : Tryz.prog.keyType 146 = true := by kernel_rfl

theorem keyFormed (a b : Int) : Value.formed Tryz.prog 146 (.agg #[.int .i64 a, .int .u32 b]) = true := by
  simp [Value.formed, Tryz.underlying146, keyCells]
theorem keyWide : (match Tryz.prog.underlying 146 with | some (.array _ _) | some (.struct _) => true | _ => false) = true := by rw [Tryz.underlying146]

set_option maxRecDepth 100000 in
/-- The keys of the map: a kind and an identifier. -/
def evKeys : KeyEnc Tryz.prog 146 (Int × Int) where
  law := keyLaw
  kv := fun p => .agg #[.int .i64 p.1, .int .u32 p.2]
  kl := fun p => (DataW.agg [.lit (.int .i64 p.1), .lit (.int .u32 p.2)] : DataW Value).asKey
  ok := fun p => (Lit.int .i64 p.1).wf = true ∧ (Lit.int .u32 p.2).wf = true
  key := fun p h => (keyOf_asKey (H := Value) (enc := fun q => q.2) (w := default) (base := 0) (sp := fun _ => true) (held := true) keyT keyWide (keyFormed p.1 p.2)
    (Go.Joins.shut_agg2 (y0 := (.lit (.int .i64 p.1), [])) (y1 := (.lit (.int .u32 p.2), [])) Tryz.underlying146 (by kernel_rfl) keyCells ⟨1, by simp [DataW.trod, Tryz.underlying3, h.1]⟩ ⟨1, by simp [DataW.trod, Tryz.underlying26, h.2]⟩)).1
  inj := fun a b h => by
    injection h with h
    simp only [Array.mk.injEq, List.cons.injEq, Value.int.injEq, true_and, and_true] at h
    exact Prod.ext h.1 h.2

end Go.Proofs.YtdbbchifkjhfcaaGreat
end

section
/- Squeeze returns the squeezed list in new memory. -/
namespace Go.Proofs.YtdbbchifkjhfcaaGreat
open Go.RowKit Go.Maps

/-- Of the first k events each one's key stands in the map, at the last place of this key. -/
def LastOf (l : List Ev) (k : Nat) (M : List ((Int × Int) × Value)) : Prop :=
  ∀ i e, i < k → l[i]? = some e → ∃ j : Nat, get M (e.k, e.u) = some (.int .i64 j) ∧ i ≤ j ∧ j < k ∧ ∃ e', l[j]? = some e' ∧ e'.k = e.k ∧ e'.u = e.u

theorem LastOf.step {l : List Ev} {k : Nat} {M : List ((Int × Int) × Value)} (h : LastOf l k M) {x : Ev} (hx : l[k]? = some x) : LastOf l (k + 1) (put M (x.k, x.u) (.int .i64 (k : Nat))) := by
  intro i e hi he
  by_cases hk : (e.k, e.u) = (x.k, x.u)
  · rw [hk, get_put_same]
    injection hk with h1 h2
    exact ⟨k, rfl, by omega, by omega, x, hx, h1.symm, h2.symm⟩
  · have hik : i < k := by
      rcases Nat.lt_or_ge i k with h1 | h1
      · exact h1
      · obtain rfl : i = k := by omega
        rw [hx] at he
        injection he with he
        subst he
        exact absurd rfl hk
    rw [get_put_other M _ hk]
    obtain ⟨j, h1, h2, h3, h4⟩ := h i e hik he
    exact ⟨j, h1, h2, by omega, h4⟩

/-- At the end, the place in the map tells whether there is a later change. -/
theorem LastOf.tells {l : List Ev} {M : List ((Int × Int) × Value)} (h : LastOf l l.length M) {k : Nat} {x : Ev} (hx : l[k]? = some x) (h3 : x.k = 3) :
    ∃ j : Nat, get M (x.k, x.u) = some (.int .i64 j) ∧ j < l.length ∧ ((j = k) ↔ later x (l.drop (k + 1)) = false) := by
  obtain ⟨j, h1, h2, h4, y, hy, hyk, hyu⟩ := h k x (List.getElem?_eq_some_iff.1 hx).1 hx
  refine ⟨j, h1, h4, ?_⟩
  constructor
  · rintro rfl
    cases hl : later x (l.drop (j + 1)) with
    | false => rfl
    | true =>
      obtain ⟨_, i, z, hi, hz, hz3, hzu⟩ := later_iff.1 hl
      obtain ⟨j', h5, h6, _⟩ := h i z (List.getElem?_eq_some_iff.1 hz).1 hz
      rw [hz3, hzu, ← h3, h1] at h5
      injection h5 with h5
      injection h5 with _ h5
      omega
  · intro hl
    rcases Nat.lt_or_ge k j with hk | hk
    · have : later x (l.drop (k + 1)) = true := later_iff.2 ⟨h3, j, y, by omega, hy, by rw [hyk, h3], hyu⟩
      rw [hl] at this
      cases this
    · omega

theorem put_length {α : Type} [DecidableEq α] (M : List (α × Value)) (a : α) (v : Value) : (put M a v).length ≤ M.length + 1 := by
  unfold put del
  rw [List.length_cons]
  have := List.length_filter_le (fun p : α × Value => decide (p.1 ≠ a)) M
  omega

theorem zeroInt (w : World) : (zeroValue 3).run Tryz.prog w = .ok (.int .i64 0) w := by kernel_rfl

set_option maxHeartbeats 3200000 in
theorem squeeze_any (v : Value) (l : List Ev) (w : World) (hv : Rd evE w v l) (hwf : ∀ x ∈ l, x.wf) (hl : l.length ≤ 100000) :
    Calls Tryz.prog 64 #[v] w fun e w' => ∃ o, e = .returned o ∧ Own evE 36 w.heap.size w' o (squeeze l) ∧ New w w' := by
  obtain ⟨A, c, rfl, hc, hcells⟩ := hv
  have HC := Lib.hid hcells
  have HW := Lib.hid hwf
  clear hcells hwf
  have hmm := @run_makeMap Tryz.prog
  obtain ⟨i0, hi, hz0, hz1, hz2⟩ := info_parts ev_info
  go_enter Tryz.func64, Tryz.ntmps64
  go_wp2
  go_loopw [12] (fun vi wr => ∃ (k : Nat) (M : List ((Int × Int) × Value)), k ≤ l.length ∧ vi = .int .i64 k ∧ HasMap evKeys wr w.heap.size M ∧ M.length ≤ k ∧ LastOf l k M ∧ New w wr) (fun vi _ => l.length - (intOf vi).toNat)
  case atStart => exact ⟨0, [], Nat.zero_le _, rfl, HasMap.made _ _, Nat.le_refl _, fun i e hi => by omega, (New.refl _).alloc _⟩
  case round =>
    obtain ⟨k, M, hk, rfl, hM, hMl, hL, hnew⟩ := hrel
    have HL := Lib.hid hL
    clear hL
    by_cases hkl : k < l.length
    · obtain ⟨x, hx⟩ : ∃ x, l[k]? = some x := ⟨_, List.getElem?_eq_getElem hkl⟩
      obtain ⟨b, off, rfl, hcell⟩ := HC.out (by rintro rfl; simp at hkl)
      have hxw := HW.out x (List.mem_of_getElem? hx)
      have c0 : wr.cell? ⟨b, off + k * 3, none⟩ = some (.int .i64 x.k) := Fr.cell hnew (hcell k _ hx 0 _ rfl) id
      have c1 : wr.cell? ⟨b, off + k * 3 + 1, none⟩ = some (.int .u32 x.u) := Fr.cell hnew (hcell k _ hx 1 _ rfl) id
      have c2 : wr.cell? ⟨b, off + k * 3 + 2, none⟩ = some (.int .u8 x.f) := Fr.cell hnew (hcell k _ hx 2 _ rfl) id
      have HX := Lib.hid hx
      have HXW := Lib.hid hxw
      clear hcell hx hxw
      go_wp2_with (at_mapUpdate; refine wpList_put (E := evKeys) rfl _ _ _ 144 3 rfl Tryz.underlying144 (hM.alloc _) (by unfold maxLen; omega) (x.k, x.u) ⟨HXW.out.1, HXW.out.2.1⟩ (.int .i64 k) rfl rfl rfl ?_; intro w1 hM1 ho1)
      go_roundw
      case rel => exact ⟨k + 1, _, by omega, by go_num, hM1, by have := put_length M (x.k, x.u) (.int .i64 k); omega, HL.out.step HX.out, New.one (hnew.alloc _) ho1 (Nat.le_refl _)⟩
      case measure => simp [intOf]; omega
    · obtain rfl : k = l.length := by omega
      go_wp2
      obtain ⟨wo, rfl⟩ : ∃ wo : World, wo = wr := ⟨_, rfl⟩
      go_loopw [6, 27] (fun vo vi wr => ∃ (k : Nat) (o : List Ev), k ≤ l.length ∧ vi = .int .i64 k ∧ Own evE 36 w.heap.size wr vo o ∧ o.length ≤ k ∧ Hid (o ++ squeeze (l.drop k) = squeeze l) ∧ HasMap evKeys wr w.heap.size M ∧ New w wr ∧ vo.ownBlock ≠ some w.heap.size) (fun _ vi _ => l.length - (intOf vi).toNat)
      case atStart => exact ⟨0, [], Nat.zero_le _, rfl, Own.nil _ _ _ _, Nat.le_refl _, by show [] ++ squeeze (l.drop 0) = squeeze l; rfl, hM, hnew, by simp [Value.ownBlock]⟩
      case round =>
        obtain ⟨k, o, hk2, rfl, ho, hol, HS, hM2, hnew2, hne⟩ := hrel
        clear hM hnew hMl
        by_cases hkl : k < l.length
        · obtain ⟨x, hx⟩ : ∃ x, l[k]? = some x := ⟨_, List.getElem?_eq_getElem hkl⟩
          obtain ⟨b, off, rfl, hcell⟩ := HC.out (by rintro rfl; simp at hkl)
          have hxw := HW.out x (List.mem_of_getElem? hx)
          have c0 : wr.cell? ⟨b, off + k * 3, none⟩ = some (.int .i64 x.k) := Fr.cell hnew2 (hcell k _ hx 0 _ rfl) id
          have c1 : wr.cell? ⟨b, off + k * 3 + 1, none⟩ = some (.int .u32 x.u) := Fr.cell hnew2 (hcell k _ hx 1 _ rfl) id
          have c2 : wr.cell? ⟨b, off + k * 3 + 2, none⟩ = some (.int .u8 x.f) := Fr.cell hnew2 (hcell k _ hx 2 _ rfl) id
          have hsz2 := hnew2.size
          have hsd := squeeze_drop hx
          have hstep : later x (l.drop (k + 1)) = false → (o ++ [x]) ++ squeeze (l.drop (k + 1)) = squeeze l := fun h => by rw [← HS.out, hsd, h]; simp
          have hskip : later x (l.drop (k + 1)) = true → o ++ squeeze (l.drop (k + 1)) = squeeze l := fun h => by rw [← HS.out, hsd, h]; simp
          have HX := Lib.hid hx
          have HSTEP := Lib.hid hstep
          have HSKIP := Lib.hid hskip
          have HXW := Lib.hid hxw
          clear hcell hx hxw hsd hstep hskip
          obtain ⟨xk, xu, xf⟩ := x
          dsimp only at c0 c1 c2
          by_cases h3 : xk = 3
          · subst h3
            obtain ⟨j, hj1, hj2, hj3⟩ := HL.out.tells HX.out rfl
            have hrun := (hM2.alloc (.cells #[.int .i64 3, .int .u32 xu, .int .u8 xf] 36)).run_look (t := 144) Tryz.underlying144 (zeroInt _) (k := (3, xu)) ⟨HXW.out.1, HXW.out.2.1⟩
            rw [hj1] at hrun
            have hkv : evKeys.kv ((3 : Int), xu) = .agg #[.int .i64 3, .int .u32 xu] := rfl
            rw [hkv] at hrun
            simp only [Option.getD_some] at hrun
            have HJ := Lib.hid hj3
            clear hj1 hj3 hkv
            by_cases hjk : j = k
            · subst hjk
              go_wp2_with (at_builtin; refine wpList_push (E := evE) rfl _ _ _ rfl Tryz.underlying37 hi hz0 hz1 hz2 rfl ((ho.alloc _).alloc _) rfl ⟨3, xu, xf⟩ (wr.heap.size + 1) (Blk.new1 _ _ _ _) 1 rfl (by unfold maxLen; omega) (by omega) (by simp; omega) ?_; intro v2 w2 hv2 hf2 hl2)
              have hM3 : HasMap evKeys w2 w.heap.size M := ((hM2.alloc _).alloc _).fr hf2 hne
              have hne2 : v2.ownBlock ≠ some w.heap.size := by
                rcases hl2 with h | h
                · rw [h]; exact hne
                · rw [h]; have := hM2.lt; simp; omega
              have hnew3 := New.append ((hnew2.alloc _).alloc _) ((ho.alloc _).alloc _) hf2
              go_roundw
              case rel => exact ⟨j + 1, _, by omega, by go_num, hv2, by simp; omega, HSTEP.out (HJ.out.1 rfl), hM3, hnew3, hne2⟩
              case measure => simp [intOf]; omega
            · have hjb : ((j : Int) == (k : Int)) = false := by simp; omega
              have hlt : later ⟨3, xu, xf⟩ (l.drop (k + 1)) = true := by
                cases hb : later ⟨3, xu, xf⟩ (l.drop (k + 1)) with
                | true => rfl
                | false => exact absurd (HJ.out.2 hb) hjk
              have HLT := Lib.hid hlt
              clear hlt
              go_wp2
              go_roundw
              case rel => exact ⟨k + 1, o, by omega, by go_num, ho.alloc _, by omega, HSKIP.out HLT.out, hM2.alloc _, hnew2.alloc _, hne⟩
              case measure => simp [intOf]; omega
          · have hb3 : (xk != 3) = true := by simp [h3]
            have hl0 : later ⟨xk, xu, xf⟩ (l.drop (k + 1)) = false := by simp [later, h3]
            have HL0 := Lib.hid hl0
            clear hl0
            go_wp2_with (at_builtin; refine wpList_push (E := evE) rfl _ _ _ rfl Tryz.underlying37 hi hz0 hz1 hz2 rfl ((ho.alloc _).alloc _) rfl ⟨xk, xu, xf⟩ (wr.heap.size + 1) (Blk.new1 _ _ _ _) 1 rfl (by unfold maxLen; omega) (by omega) (by simp; omega) ?_; intro v2 w2 hv2 hf2 hl2)
            have hM3 : HasMap evKeys w2 w.heap.size M := ((hM2.alloc _).alloc _).fr hf2 hne
            have hne2 : v2.ownBlock ≠ some w.heap.size := by
              rcases hl2 with h | h
              · rw [h]; exact hne
              · rw [h]; have := hM2.lt; simp; omega
            have hnew3 := New.append ((hnew2.alloc _).alloc _) ((ho.alloc _).alloc _) hf2
            go_roundw
            case rel => exact ⟨k + 1, _, by omega, by go_num, hv2, by simp; omega, HSTEP.out HL0.out, hM3, hnew3, hne2⟩
            case measure => simp [intOf]; omega
        · go_wp2
          go_ret
          obtain rfl : k = l.length := by omega
          have he := HS.out
          rw [List.drop_length, squeeze, List.append_nil] at he
          subst he
          exact ⟨_, rfl, ho, hnew2⟩

end Go.Proofs.YtdbbchifkjhfcaaGreat
end

section
/- Events are equal just if their three numbers are; slices.Equal tells whether two lists of events are equal. -/
namespace Go.Proofs.YtdbbchifkjhfcaaGreat
open Go.RowKit

theorem ev_guard : Tryz.prog.eqGuardType Tryz.prog.depth 36 = false := by kernel_rfl
theorem ev_struct : Tryz.prog.underlying 36 = some (.struct (Tryz.prog.fieldsOf 36)) := by kernel_rfl
theorem ev_stood : Tryz.prog.stoodInHeld 36 = false := by kernel_rfl

theorem ev_eqIn (a b c a' b' c' : Int) (w : World) :
    (Op.equalIn 10000 36 (.agg #[.int .i64 a, .int .u32 b, .int .u8 c]) (.agg #[.int .i64 a', .int .u32 b', .int .u8 c'])).run Tryz.prog w = .ok (decide ((⟨a, b, c⟩ : Ev) = ⟨a', b', c'⟩)) w := by
  rw [show (10000 : Nat) = 9999 + 1 from rfl, run_equalIn_agg w 9999 36 _ _ ev_struct ev_stood]
  simp only [Program.fieldsOf, Tryz.underlying36]
  go_simp
  by_cases h1 : a = a' <;> by_cases h2 : b = b' <;> by_cases h3 : c = c' <;> simp [h1, h2, h3]

theorem ev_neq (a b c a' b' c' : Int) (w : World) :
    (binOp .neq 36 (.agg #[.int .i64 a, .int .u32 b, .int .u8 c]) (.agg #[.int .i64 a', .int .u32 b', .int .u8 c'])).run Tryz.prog w = .ok (.bool (!decide ((⟨a, b, c⟩ : Ev) = ⟨a', b', c'⟩))) w := by
  rw [run_neq_struct, ev_eqIn]
  rfl
theorem ev_eql (a b c a' b' c' : Int) (w : World) :
    (binOp .eql 36 (.agg #[.int .i64 a, .int .u32 b, .int .u8 c]) (.agg #[.int .i64 a', .int .u32 b', .int .u8 c'])).run Tryz.prog w = .ok (.bool (decide ((⟨a, b, c⟩ : Ev) = ⟨a', b', c'⟩))) w := by
  rw [run_eql_struct, ev_eqIn]
  rfl

set_option maxRecDepth 100000 in
set_option maxHeartbeats 1600000 in
theorem equal_any (v u : Value) (l m : List Ev) (w : World) (hv : Rd evE w v l) (hu : Rd evE w u m) (hl : l.length ≤ 1000000) (hm : m.length ≤ 1000000) :
    Calls Tryz.prog 11 #[v, u] w fun e w' => e = .returned (.bool (decide (l = m))) ∧ New w w' := by
  obtain ⟨A, c, rfl, hc, hA⟩ := hv
  obtain ⟨B, d, rfl, hd, hB⟩ := hu
  have HA := Lib.hid hA
  have HB := Lib.hid hB
  clear hA hB
  by_cases hlm : l.length = m.length
  · generalize hq : decide (l = m) = q
    have HQ := Lib.hid hq
    have HLM := Lib.hid hlm
    rw [← hlm]
    rw [← hlm] at hm
    clear hq hlm
    have hg := ev_guard
    have hneq := ev_neq
    go_enter Tryz.func11, Tryz.ntmps11
    go_wp2
    go_loopw [13] (fun vi wr => ∃ k : Nat, k ≤ l.length ∧ vi = .int .i64 k ∧ Hid (∀ i, i < k → l[i]? = m[i]?) ∧ New w wr) (fun vi _ => l.length - (intOf vi).toNat)
    case atStart => exact ⟨0, Nat.zero_le _, rfl, fun i hi => by omega, New.refl _⟩
    case round =>
      obtain ⟨k, hk, rfl, HS, hnew⟩ := hrel
      by_cases hkl : k < l.length
      · obtain ⟨x, hx⟩ : ∃ x, l[k]? = some x := ⟨_, List.getElem?_eq_getElem hkl⟩
        obtain ⟨y, hy⟩ : ∃ y, m[k]? = some y := ⟨_, List.getElem?_eq_getElem (by have := HLM.out; omega)⟩
        obtain ⟨b, off, rfl, hcell⟩ := HA.out (by rintro rfl; simp at hkl)
        obtain ⟨b', off', rfl, hcell'⟩ := HB.out (by rintro rfl; simp at hy)
        obtain ⟨xk, xu, xf⟩ := x
        obtain ⟨yk, yu, yf⟩ := y
        have c0 : wr.cell? ⟨b, off + k * 3, none⟩ = some (.int .i64 xk) := Fr.cell hnew (hcell k _ hx 0 _ rfl) id
        have c1 : wr.cell? ⟨b, off + k * 3 + 1, none⟩ = some (.int .u32 xu) := Fr.cell hnew (hcell k _ hx 1 _ rfl) id
        have c2 : wr.cell? ⟨b, off + k * 3 + 2, none⟩ = some (.int .u8 xf) := Fr.cell hnew (hcell k _ hx 2 _ rfl) id
        have d0 : wr.cell? ⟨b', off' + k * 3, none⟩ = some (.int .i64 yk) := Fr.cell hnew (hcell' k _ hy 0 _ rfl) id
        have d1 : wr.cell? ⟨b', off' + k * 3 + 1, none⟩ = some (.int .u32 yu) := Fr.cell hnew (hcell' k _ hy 1 _ rfl) id
        have d2 : wr.cell? ⟨b', off' + k * 3 + 2, none⟩ = some (.int .u8 yf) := Fr.cell hnew (hcell' k _ hy 2 _ rfl) id
        have HX := Lib.hid hx
        have HY := Lib.hid hy
        clear hcell hcell' hx hy
        have hd := hneq xk xu xf yk yu yf
        clear hneq
        cases hxy : decide ((⟨xk, xu, xf⟩ : Ev) = ⟨yk, yu, yf⟩)
        all_goals
          rw [hxy] at hd
          have HXY := Lib.hid hxy
          clear hxy
          go_wp2_with fail
          refine wp_tail 8 (by kernel_rfl) (by kernel_rfl) ?_
          simp only [List.take_succ_cons, List.take_zero, List.drop_succ_cons, List.drop_zero]
          repeat still_step
          refine wpStill_nil ?_
          go_wp2
        · go_ret
          have hne : q = false := by
            rw [← HQ.out]
            refine decide_eq_false fun e => ?_
            have h1 := HX.out
            rw [e, HY.out] at h1
            injection h1 with h1
            have h2 := of_decide_eq_false HXY.out
            exact h2 h1.symm
          rw [hne]
          exact ⟨rfl, hnew.drew⟩
        · go_roundw
          case rel =>
            refine ⟨k + 1, by omega, by go_num, fun i hi => ?_, hnew.drew⟩
            rcases Nat.lt_or_ge i k with h | h
            · exact HS.out i h
            · obtain rfl : i = k := by omega
              rw [HX.out, HY.out, of_decide_eq_true HXY.out]
          case measure => simp [intOf]; omega
      · go_wp2
        go_ret
        have he : q = true := by
          rw [← HQ.out]
          refine decide_eq_true (List.ext_getElem? fun i => ?_)
          rcases Nat.lt_or_ge i k with h | h
          · exact HS.out i h
          · rw [List.getElem?_eq_none (by omega), List.getElem?_eq_none (by have := HLM.out; omega)]
        rw [he]
        exact ⟨rfl, hnew⟩
  · have hne : decide (l = m) = false := decide_eq_false fun e => hlm (by rw [e])
    rw [hne]
    have hb : ((l.length : Int) != (m.length : Int)) = true := by simp; omega
    clear hne hlm
    go_enter Tryz.func11, Tryz.ntmps11
    go_wp2
    go_ret
    exact ⟨rfl, New.refl _⟩

end Go.Proofs.YtdbbchifkjhfcaaGreat
end

section
/- The queue of events: each method's contract. -/
namespace Go.Proofs.YtdbbchifkjhfcaaGreat
open Go.RowKit

/-- Block b is a queue whose slice is v; it has the events l. -/
structure Que (w : World) (b : Nat) (v : Value) (l : List Ev) : Prop where
  blk : Blk w b 117 #[v]
  own : Own evE 36 0 w v l
  wf : ∀ x ∈ l, x.wf

theorem Que.ne {w : World} {b : Nat} {v : Value} {l : List Ev} (h : Que w b v l) : v.ownBlock ≠ some b := h.own.blk_ne h.blk (by decide)
theorem Que.fr {S : Nat → Prop} {w w' : World} {b : Nat} {v : Value} {l : List Ev} (h : Que w b v l) (hf : Fr S w w') (hb : ¬ S b) (hv : ∀ g, v.ownBlock = some g → ¬ S g) : Que w' b v l :=
  ⟨Fr.blk hf h.blk hb, h.own.fr hf hv, h.wf⟩
theorem Que.new {w w' : World} {b : Nat} {v : Value} {l : List Ev} (h : Que w b v l) (hf : New w w') : Que w' b v l := h.fr hf id fun _ _ => id

theorem known_pred (w : World) : IsPred w 81 #[] (fun x => decide (1 ≤ x.k ∧ x.k ≤ 3)) := fun W x _ => known_any x W
set_option maxHeartbeats 400000 in
theorem flush1_pred (w : World) (g : Nat) (gone : Bool) (hg : Blk w g 4 #[.bool gone]) : IsPred w 63 #[.pointer (some ⟨g, 0, none⟩)] (fun x => gone || decide (x.k ≠ 2)) := by
  intro W x hn
  have hc : W.cell? ⟨g, 0, none⟩ = some (.bool gone) := (hn.blk hg).cell 0
  have hlt := (hn.blk hg).lt
  have hc1 : ∀ o, (W.alloc o).cell? ⟨g, 0, none⟩ = some (.bool gone) := fun o => (Blk.alloc (hn.blk hg) o).cell 0
  obtain ⟨k, u, f⟩ := x
  show Calls Tryz.prog 63 #[(Ev.val ⟨k, u, f⟩), .pointer (some ⟨g, 0, none⟩)] W _
  unfold Ev.val
  dsimp only
  cases gone
  · by_cases hk : k = 2
    · subst hk
      go_enter Tryz.func63, Tryz.ntmps63
      go_wp2
      go_ret
      exact ⟨rfl, (New.refl _).alloc _⟩
    · have hb : (k != 2) = true := by simp [hk]
      have hd : (false || decide (k ≠ 2)) = true := by simp [hk]
      rw [hd]
      clear hd
      go_enter Tryz.func63, Tryz.ntmps63
      go_wp2
      go_ret
      exact ⟨rfl, (New.refl _).alloc _⟩
  · rw [Bool.true_or]
    go_enter Tryz.func63, Tryz.ntmps63
    go_wp2
    go_ret
    exact ⟨rfl, (New.refl _).alloc _⟩

set_option maxHeartbeats 400000 in
theorem qnew_any (w : World) : Calls Tryz.prog 31 #[] w fun e w' => e = .returned (.pointer (some ⟨w.heap.size, 0, none⟩)) ∧ Que w' w.heap.size (.slice none 0 0) [] ∧ New w w' := by
  go_enter Tryz.func31, Tryz.ntmps31
  go_wp2
  go_ret
  exact ⟨rfl, ⟨Blk.new _ _ _, Own.nil _ _ _ _, by simp⟩, (New.refl _).alloc _⟩

set_option maxHeartbeats 400000 in
theorem qlen_any {w : World} {b : Nat} {v : Value} {l : List Ev} (h : Que w b v l) : Calls Tryz.prog 44 #[.pointer (some ⟨b, 0, none⟩)] w fun e w' => e = .returned (.int .i64 l.length) ∧ w = w' := by
  have c0 : w.cell? ⟨b, 0, none⟩ = some v := h.blk.cell 0
  obtain ⟨A, c, rfl, _⟩ := h.own.form
  go_enter Tryz.func44, Tryz.ntmps44
  go_wp2
  go_ret
  exact ⟨rfl, rfl⟩

set_option maxHeartbeats 1600000 in
theorem push_any {w : World} {b : Nat} {v : Value} {l : List Ev} (h : Que w b v l) (u : Value) (m : List Ev) (hu : Rd evE w u m) (hm : m.length ≤ 100000) (hl : l.length ≤ 100000) (hw : ∀ x ∈ m, x.wf) :
    Calls Tryz.prog 57 #[.pointer (some ⟨b, 0, none⟩), u] w fun e w' => e = .returned (.tuple #[]) ∧ ∃ v', Que w' b v' (l ++ m.filter fun x => decide (1 ≤ x.k ∧ x.k ≤ 3)) ∧ Fr (fun k => k = b ∨ v.ownBlock = some k) w w' ∧
      (v'.ownBlock = v.ownBlock ∨ ∃ g, v'.ownBlock = some g ∧ w.heap.size ≤ g) := by
  obtain ⟨i0, hi, hz0, hz1, hz2⟩ := info_parts ev_info
  have hlt := h.blk.lt
  go_enter Tryz.func57, Tryz.ntmps57
  go_wp2_with fail
  refine (split_any 81 #[] _ (enters _ _ _ Tryz.func81 (by kernel_rfl) rfl) u m w (known_pred w) hu hm).mono ?_
  rintro e w1 ⟨y, n, rfl, hy, _, hn1⟩
  have h1 := h.new hn1
  have c0 : w1.cell? ⟨b, 0, none⟩ = some v := h1.blk.cell 0
  have f0 : w1.frozen? ⟨b, 0, none⟩ = false := h1.blk.frozen 0
  have hml := List.length_filter_le (fun x : Ev => decide (1 ≤ x.k ∧ x.k ≤ 3)) m
  have hs := hn1.size
  have hvne := h1.ne
  have HV := Lib.hid hvne
  clear hvne
  go_wp2_with (at_builtin; refine wpList_append (E := evE) rfl _ _ _ rfl Tryz.underlying37 hi hz0 hz1 hz2 rfl h1.own rfl hy.rd rfl (by unfold maxLen; omega) (by omega) (by omega) ?_; intro v2 w2 hv2 hf2 hl2; have hb2 : Blk w2 b 117 #[v] := Fr.blk hf2 h1.blk HV.out; have c2 : w2.cell? ⟨b, 0, none⟩ = some v := hb2.cell 0; have f2 : w2.frozen? ⟨b, 0, none⟩ = false := hb2.frozen 0; obtain ⟨A2, N2, C2, hv2e⟩ := own_shape hv2; subst hv2e)
  go_end0
  refine ⟨rfl, _, ⟨hb2.set_ 0 _, hv2.fr ((One.refl b w2).set 0 _) (fun g hg e => ?_), ?_⟩, ?_, ?_⟩
  · subst e
    have := hv2.blk_ne hb2 (by decide)
    exact this hg
  · intro x hx
    rcases List.mem_append.1 hx with hx | hx
    · exact h.wf x hx
    · exact hw x (List.mem_filter.1 hx).1
  · exact (((fr_or hn1 fun _ h => h.elim).trans (fr_or hf2 fun _ h => Or.inr h))).trans (fr_or ((One.refl b w2).set 0 _) fun _ h => Or.inl h)
  · rcases hl2 with hl2 | hl2
    · exact .inl hl2
    · exact .inr ⟨_, hl2, hs⟩

set_option maxHeartbeats 1600000 in
theorem flush_any {w : World} {b : Nat} {v : Value} {l : List Ev} (h : Que w b v l) (gone : Bool) (hl : l.length ≤ 100000) :
    Calls Tryz.prog 39 #[.pointer (some ⟨b, 0, none⟩), .bool gone] w fun e w' => ∃ o v', e = .returned o ∧ Own evE 36 w.heap.size w' o (squeeze (l.filter fun x => gone || decide (x.k ≠ 2))) ∧
      Que w' b v' (l.filter fun x => !(gone || decide (x.k ≠ 2))) ∧ One b w w' ∧ (∀ g, v'.ownBlock = some g → w.heap.size ≤ g) ∧ (o.ownBlock = none ∨ o.ownBlock ≠ v'.ownBlock) := by
  have hmf : ∀ (fn : Fn) (first cap : Array Value) (w : World), (Instr.makeFunc fn first cap).run Tryz.prog w = .ok (.func fn first cap) w := fun _ _ _ _ => rfl
  have c0 : w.cell? ⟨b, 0, none⟩ = some v := h.blk.cell 0
  have hlt := h.blk.lt
  obtain ⟨A, N, C, rfl⟩ := own_shape h.own
  have hbox : Blk (w.alloc (.cells #[.bool gone] 4)) w.heap.size 4 #[.bool gone] := Blk.new _ _ _
  have h0 : Que (w.alloc (.cells #[.bool gone] 4)) b (.slice A N C) l := h.new ((New.refl _).alloc _)
  have hl1 := List.length_filter_le (fun x : Ev => gone || decide (x.k ≠ 2)) l
  go_enter Tryz.func39, Tryz.ntmps39
  go_wp2_with fail
  refine (split_any 63 #[.pointer (some ⟨w.heap.size, 0, none⟩)] _ (enters _ _ _ Tryz.func63 (by kernel_rfl) rfl) _ l _ (flush1_pred _ w.heap.size gone hbox) h0.own.rd hl).mono ?_
  rintro e w1 ⟨y, n, rfl, hy, hno, hn1⟩
  rw [World.size_alloc] at hy hno
  have h1 := h0.new hn1
  have f1 : w1.frozen? ⟨b, 0, none⟩ = false := h1.blk.frozen 0
  have c1 : w1.cell? ⟨b, 0, none⟩ = some (.slice A N C) := h1.blk.cell 0
  have hs := hn1.size
  rw [World.size_alloc] at hs
  obtain ⟨A2, N2, C2, rfl⟩ := own_shape hno
  go_wp2_with fail
  have hb2 : Blk (w1.setCell ⟨b, 0, none⟩ (.slice A2 N2 C2)) b 117 #[.slice A2 N2 C2] := h1.blk.set_ 0 _
  have hnb : ∀ {x : Value} {m : List Ev}, Own evE 36 (w.heap.size + 1) w1 x m → ∀ g, x.ownBlock = some g → ¬ g = b := fun hx g hg e => by have := (hx.block hg).1; omega
  have hno2 := hno.fr ((One.refl b w1).set 0 (.slice A2 N2 C2)) (hnb hno)
  have hy2 := hy.fr ((One.refl b w1).set 0 (.slice A2 N2 C2)) (hnb hy)
  refine (squeeze_any _ _ _ hy2.rd (fun x hx => h.wf x (List.mem_filter.1 hx).1) (by omega)).mono ?_
  rintro e w3 ⟨o, rfl, ho, hn3⟩
  go_wp2
  go_ret
  have hsz : w.heap.size ≤ (w1.setCell ⟨b, 0, none⟩ (.slice A2 N2 C2)).heap.size := by have := ((One.refl b w1).set 0 (.slice A2 N2 C2)).size; omega
  refine ⟨o, .slice A2 N2 C2, rfl, ho.mono hsz, ⟨hn3.blk hb2, (hno2.mono (Nat.zero_le _)).new hn3, fun x hx => h.wf x (List.mem_filter.1 hx).1⟩, ?_, fun g hg => ?_, ?_⟩
  · have f1 : One b w w1 := fr_or (((New.refl w).alloc _).trans hn1) fun _ h => h.elim
    exact (f1.trans ((One.refl b w1).set 0 _)).trans (fr_or hn3 fun _ h => h.elim)
  · have := (hno.block hg).1; omega
  · cases ho' : o.ownBlock with
    | none => exact .inl rfl
    | some g =>
      refine .inr fun he => ?_
      have h5 := (ho.block ho').1
      have h6 := (hno2.block he.symm).2
      omega

end Go.Proofs.YtdbbchifkjhfcaaGreat
end

