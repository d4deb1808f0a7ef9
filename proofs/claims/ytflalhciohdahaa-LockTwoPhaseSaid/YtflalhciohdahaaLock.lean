/- The table of locks: the contracts of its methods but Held. -/
import Derived.Test.YtflalhciohdahaaLockP
import Derived.Test.YtflalhciohdahaaIntSl
import Derived.Test.YtflalhciohdahaaMaps
import Derived.Test.YtflalhciohdahaaMore
import Derived.Laws.LoneSync
namespace Go.Proofs.Ytflalhciohdahaa
open Go.RowKit

abbrev iKeys : KeyEnc Try.prog 3 Int := intKeys Try.underlying3

theorem zeroInt (w : World) : (zeroValue 3).run Try.prog w = .ok (.int .i64 0) w := by kernel_rfl

/-- What the map has at a lock. -/
def cellAt (O : List Int) (k : Int) : Option Value := if 0 ≤ ownerP O k then some (.int .i64 (ownerP O k)) else none

/-- Block b is a table, bm its map: its locks have the owners O, N acquirings have been. -/
structure Tab (w : World) (b bm : Nat) (O : List Int) (N : Int) : Prop where
  blk : Blk w b 66 #[.int .i64 O.length, .map (some bm), .int .i64 N]
  map : ∃ l, HasMap iKeys w bm l ∧ (l.length : Int) ≤ N ∧ ∀ k, okI k → get l k = cellAt O k
  ows : Ows O
  ok : ∀ x ∈ O, okI x
  len : O.length ≤ 65536
  hi : N ≤ 10000

/-- What an operation may turn. -/
abbrev TFr (b bm : Nat) (w w' : World) : Prop := Fr (fun k => k = b ∨ k = bm) w w'

theorem Tab.fr {S : Nat → Prop} {w w' : World} {b bm : Nat} {O : List Int} {N : Int} (h : Tab w b bm O N) (hf : Fr S w w') (hb : ¬ S b) (hm : ¬ S bm) : Tab w' b bm O N := by
  obtain ⟨l, h1, h2⟩ := h.map
  exact ⟨Fr.blk hf h.blk hb, ⟨l, h1.fr hf hm, h2⟩, h.ows, h.ok, h.len, h.hi⟩
theorem Tab.new {w w' : World} {b bm : Nat} {O : List Int} {N : Int} (h : Tab w b bm O N) (hf : New w w') : Tab w' b bm O N := h.fr hf id id
theorem Tab.lt {w : World} {b bm : Nat} {O : List Int} {N : Int} (h : Tab w b bm O N) : b < w.heap.size := h.blk.lt
theorem Tab.ltm {w : World} {b bm : Nat} {O : List Int} {N : Int} (h : Tab w b bm O N) : bm < w.heap.size := by
  obtain ⟨l, h1, _⟩ := h.map
  exact h1.lt
theorem Tab.ne {w : World} {b bm : Nat} {O : List Int} {N : Int} (h : Tab w b bm O N) : b ≠ bm := by
  rintro rfl
  obtain ⟨l, h1, _⟩ := h.map
  obtain ⟨D, ⟨es, clock, h3, _⟩, _⟩ := h1.own
  have := h.blk
  unfold Blk at this
  rw [this] at h3
  cases h3

theorem Tab.lo {w : World} {b bm : Nat} {O : List Int} {N : Int} (h : Tab w b bm O N) : 0 ≤ N := by
  obtain ⟨l, _, h1, _⟩ := h.map
  omega

theorem rep_owner (n : Nat) (k : Int) : ownerP (List.replicate n (-1)) k = -1 := by
  unfold ownerP
  split
  · rw [List.getD_eq_getElem?_getD]
    cases h : (List.replicate n (-1 : Int))[k.toNat]? with
    | none => rfl
    | some x => simpa using (List.mem_replicate.1 (List.mem_of_getElem? h)).2
  · rfl

set_option maxHeartbeats 400000 in
theorem lnew_any (n : Int) (h0 : 0 ≤ n) (h1 : n ≤ 65536) (w : World) :
    Calls Try.prog 10 #[.int .i64 n] w fun e w' => ∃ b bm, e = .returned (.pointer (some ⟨b, 0, none⟩)) ∧ Tab w' b bm (List.replicate n.toNat (-1)) 0 ∧ w.heap.size ≤ b ∧ w.heap.size ≤ bm ∧ New w w' := by
  have hmm := @run_makeMap Try.prog
  go_enter Try.func10, Try.ntmps10
  go_wp2
  go_ret
  obtain ⟨m, rfl⟩ : ∃ m : Nat, n = m := ⟨n.toNat, by omega⟩
  have hlen : (List.replicate m (-1 : Int)).length = m := List.length_replicate
  have hb : Blk ((w.alloc (.map #[] 0)).alloc (.cells #[.int .i64 m, .map (some w.heap.size), .int .i64 0] 66)) (w.heap.size + 1) 66 #[.int .i64 m, .map (some w.heap.size), .int .i64 0] := Blk.new1 _ _ _ _
  refine ⟨w.heap.size + 1, w.heap.size, rfl, ⟨?_, ⟨[], (HasMap.made iKeys w).alloc _, Int.le_refl _, fun k _ => ?_⟩, ?_, ?_, ?_, by omega⟩, by omega, Nat.le_refl _, ((New.refl w).alloc _).alloc _⟩
  · show Blk _ _ _ #[.int .i64 ((List.replicate m (-1 : Int)).length : Int), _, _]
    rw [hlen]
    exact hb
  · show none = cellAt (List.replicate m (-1)) k
    unfold cellAt
    rw [rep_owner, if_neg (by omega)]
  · intro x hx
    rw [(List.mem_replicate.1 hx).2]
    exact Int.le_refl _
  · intro x hx
    rw [(List.mem_replicate.1 hx).2]
    decide
  · show (List.replicate m (-1 : Int)).length ≤ 65536
    omega

set_option maxHeartbeats 400000 in
theorem lnew_none (n : Int) (h : n < 0 ∨ 65536 < n) (w : World) : Calls Try.prog 10 #[.int .i64 n] w fun e w' => e = .returned (.pointer none) ∧ w = w' := by
  rcases h with h | h
  · go_enter Try.func10, Try.ntmps10
    go_wp2
    go_ret
    exact ⟨rfl, rfl⟩
  · have h2 : ¬ n < 0 := by omega
    go_enter Try.func10, Try.ntmps10
    go_wp2
    go_ret
    exact ⟨rfl, rfl⟩

set_option maxHeartbeats 400000 in
theorem llen_any {w : World} {b bm : Nat} {O : List Int} {N : Int} (h : Tab w b bm O N) : Calls Try.prog 11 #[.pointer (some ⟨b, 0, none⟩)] w fun e w' => e = .returned (.int .i64 O.length) ∧ w = w' := by
  have c0 : w.cell? ⟨b, 0, none⟩ = some (.int .i64 O.length) := h.blk.cell 0
  go_enter Try.func11, Try.ntmps11
  go_wp2
  go_ret
  exact ⟨rfl, rfl⟩

set_option maxHeartbeats 400000 in
theorem lacquired_any {w : World} {b bm : Nat} {O : List Int} {N : Int} (h : Tab w b bm O N) : Calls Try.prog 26 #[.pointer (some ⟨b, 0, none⟩)] w fun e w' => e = .returned (.int .i64 N) ∧ w = w' := by
  have c2 : w.cell? ⟨b, 2, none⟩ = some (.int .i64 N) := h.blk.cell 2
  have hld := run_call_load (P := Try.prog) Try.func45 (by kernel_rfl) (by kernel_rfl) (by kernel_rfl) .i64 (by kernel_rfl) c2
  go_enter Try.func26, Try.ntmps26
  go_wp2
  go_ret
  exact ⟨rfl, rfl⟩

set_option maxHeartbeats 800000 in
theorem lfree_any {w : World} {b bm : Nat} {O : List Int} {N : Int} (h : Tab w b bm O N) : Calls Try.prog 12 #[.pointer (some ⟨b, 0, none⟩)] w fun e w' => e = .returned (.bool (freeP O)) ∧ w = w' := by
  have c1 : w.cell? ⟨b, 1, none⟩ = some (.map (some bm)) := h.blk.cell 1
  obtain ⟨l, hm, hll, hg⟩ := h.map
  have hfree : freeP O = decide (l.length = 0) := by
    rw [Bool.eq_iff_iff, freeP_iff, decide_eq_true_iff]
    constructor
    · intro h1
      cases l with
      | nil => rfl
      | cons p l =>
        have h2 := hg p.1 (hm.oks p List.mem_cons_self)
        have h3 := h1 p.1
        rw [get_cons, if_pos rfl] at h2
        unfold cellAt at h2
        rw [if_neg (by omega)] at h2
        cases h2
    · intro h1 k
      obtain rfl := List.eq_nil_of_length_eq_zero h1
      rcases Int.lt_or_le (ownerP O k) 0 with h2 | h2
      · exact h2
      · have hr := ownerP_in h2
        have h3 := hg k (WalkArith.wf_i64 (by have := h.len; omega))
        unfold cellAt at h3
        rw [if_pos h2] at h3
        cases h3
  rw [hfree]
  have hrl : ∀ ty, Sem.run Try.prog (Builtin.len_ #[59] ty #[.map (some bm)]) w = .ok (.int .i64 l.length) w := fun ty => hm.run_len Try.underlying59 ty
  clear hfree hg hm hll
  generalize l.length = n at *
  cases n with
  | zero =>
    go_enter Try.func12, Try.ntmps12
    go_wp2
    go_ret
    exact ⟨rfl, rfl⟩
  | succ n =>
    have hb : (((n + 1 : Nat) : Int) == 0) = false := by simp; omega
    have hd : decide (n + 1 = 0) = false := by simp
    rw [hd]
    clear hd
    go_enter Try.func12, Try.ntmps12
    go_wp2
    go_ret
    exact ⟨rfl, rfl⟩

end Go.Proofs.Ytflalhciohdahaa
