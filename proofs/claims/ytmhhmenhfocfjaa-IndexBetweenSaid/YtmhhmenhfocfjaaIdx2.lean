/- An index: Len, At, All. -/
import Derived.Test.YtmhhmenhfocfjaaIdxP
import Derived.Test.YtmhhmenhfocfjaaSlU
namespace Go.Proofs.Ytmhhmenhfocfjaa
open Go.RowKit

/-- Block x is an index that keeps l. -/
def IdxAt (base : Nat) (w : World) (x : Nat) (l : List Int) : Prop := ∃ u, Blk w x 54 #[u] ∧ URow base w u l

theorem IdxAt.new {base x : Nat} {w w' : World} {l : List Int} (h : IdxAt base w x l) (hf : New w w') : IdxAt base w' x l := by
  obtain ⟨u, h1, h2⟩ := h
  exact ⟨u, New.blk hf h1, h2.new hf⟩

set_option maxHeartbeats 400000 in
theorem ilen_any {base x : Nat} {w : World} {l : List Int} (h : IdxAt base w x l) : Calls Try.prog 13 #[.pointer (some ⟨x, 0, none⟩)] w fun e w' => e = .returned (.int .i64 l.length) ∧ w' = w := by
  obtain ⟨u, hb, hr⟩ := h
  obtain ⟨A, c, rfl, _⟩ := hr.form
  have hc := hb.cell 0
  have hc0 : w.cell? ⟨x, 0, none⟩ = some (.slice A l.length c) := hc
  clear hc hr
  go_enter Try.func13, Try.ntmps13
  go_wp2
  go_ret
  exact ⟨rfl, rfl⟩

set_option maxHeartbeats 400000 in
theorem ilen_nil (w : World) : Calls Try.prog 13 #[.pointer none] w fun e w' => e = .returned (.int .i64 0) ∧ w' = w := by
  go_enter Try.func13, Try.ntmps13
  go_wp2
  go_ret
  exact ⟨rfl, rfl⟩

set_option maxHeartbeats 400000 in
theorem iall_any {base x : Nat} {w : World} {l : List Int} (h : IdxAt base w x l) (hl : l.length ≤ 100000) : Calls Try.prog 20 #[.pointer (some ⟨x, 0, none⟩)] w fun e w' => ∃ o, e = .returned o ∧ Own (intE .u32) 28 w.heap.size w' o l ∧ New w w' := by
  obtain ⟨u, hb, hr⟩ := h
  have HC := Lib.hid (uclone_any u l w hr.rd hl)
  obtain ⟨A, c, rfl, _⟩ := hr.form
  have hc := hb.cell 0
  have hc0 : w.cell? ⟨x, 0, none⟩ = some (.slice A l.length c) := hc
  clear hc hr
  go_enter Try.func20, Try.ntmps20
  go_wp2_with fail
  refine HC.out.mono ?_
  rintro e w1 ⟨o, rfl, h1, h2⟩
  go_wp2
  go_ret
  exact ⟨_, rfl, h1, h2⟩

set_option maxHeartbeats 400000 in
theorem iall_nil (w : World) : Calls Try.prog 20 #[.pointer none] w fun e w' => e = .returned (.slice none 0 0) ∧ w' = w := by
  go_enter Try.func20, Try.ntmps20
  go_wp2
  go_ret
  exact ⟨rfl, rfl⟩

set_option maxHeartbeats 400000 in
theorem iat_nil (p : Int) (w : World) : Calls Try.prog 15 #[.pointer none, .int .i64 p] w fun e w' => e = .returned (.tuple #[.int .u32 0, .bool false]) ∧ w' = w := by
  go_enter Try.func15, Try.ntmps15
  go_wp2
  go_ret2
  exact ⟨rfl, rfl⟩

/-- What At hands back. -/
def atOf (l : List Int) (p : Int) : Int × Bool := if 1 ≤ p ∧ p ≤ l.length then (l[(p - 1).toNat]?.getD 0, true) else (0, false)

set_option maxHeartbeats 800000 in
theorem iat_any {base x : Nat} {w : World} {l : List Int} (h : IdxAt base w x l) (hl : l.length ≤ 100000) (p : Int) : Calls Try.prog 15 #[.pointer (some ⟨x, 0, none⟩), .int .i64 p] w fun e w' => e = .returned (.tuple #[.int .u32 (atOf l p).1, .bool (atOf l p).2]) ∧ w' = w := by
  obtain ⟨u, hb, hr⟩ := h
  obtain ⟨A, c, rfl, hlc, hcells⟩ := hr.rd.ints
  have hc := hb.cell 0
  have hc0 : w.cell? ⟨x, 0, none⟩ = some (.slice A l.length c) := hc
  have HCL := Lib.hid hcells
  clear hc hr hcells
  by_cases h1 : p < 1
  · have hd : decide (p < 1) = true := decide_eq_true h1
    have ha : atOf l p = (0, false) := if_neg (by omega)
    rw [ha]
    clear ha
    go_enter Try.func15, Try.ntmps15
    go_wp2
    go_ret2
    exact ⟨rfl, rfl⟩
  · have hd : decide (p < 1) = false := decide_eq_false h1
    by_cases h2 : (l.length : Int) < p
    · have hd2 : decide ((l.length : Int) < p) = true := decide_eq_true h2
      have ha : atOf l p = (0, false) := if_neg (by omega)
      rw [ha]
      clear ha
      go_enter Try.func15, Try.ntmps15
      go_wp2
      go_ret2
      exact ⟨rfl, rfl⟩
    · have hd2 : decide ((l.length : Int) < p) = false := decide_eq_false h2
      obtain ⟨k, rfl⟩ : ∃ k : Nat, p = k + 1 := ⟨(p - 1).toNat, by omega⟩
      have hk : k < l.length := by omega
      obtain ⟨y, hy⟩ : ∃ y, l[k]? = some y := ⟨_, List.getElem?_eq_getElem hk⟩
      have ha : atOf l (k + 1) = (y, true) := by
        unfold atOf
        rw [if_pos (by omega), show ((k : Int) + 1 - 1).toNat = k by omega, hy]
        rfl
      rw [ha]
      obtain ⟨b, off, rfl, hcell⟩ := HCL.out (by rintro rfl; simp at hk)
      have hcy := hcell k y hy
      have hw1 : IntKind.i64.wrap ((k : Int) + 1 - 1) = k := by rw [IntWalk.i64_in _ (by omega)]; omega
      have hw2 : (k : Int) + 1 - 1 = k := by omega
      have hki : (k : Int) < l.length := by omega
      clear ha hcell hy
      go_enter Try.func15, Try.ntmps15
      go_wp2
      go_ret2
      exact ⟨rfl, rfl⟩

end Go.Proofs.Ytmhhmenhfocfjaa
