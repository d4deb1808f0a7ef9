/- The table of locks: Acquire whole, Release. -/
import Derived.Test.YtflalhciohdahaaLockAcq
namespace Go.Proofs.Ytflalhciohdahaa
open Go.RowKit

theorem acqP_code (O : List Int) (o k : Int) : acqP O o k = 0 ∨ (acqP O o k = 2 ∧ (o < 0 ∨ k < 0 ∨ (O.length : Int) ≤ k)) ∨ (acqP O o k = 8 ∧ 0 ≤ o ∧ 0 ≤ k ∧ k < O.length ∧ ownerP O k = o) ∨
    (acqP O o k ≠ 0 ∧ 0 ≤ o ∧ 0 ≤ k ∧ k < O.length ∧ ownerP O k ≠ o ∧ ((heldP O o).any (fun x => decide (k < x)) = true ∨ 0 ≤ ownerP O k)) := by
  unfold acqP
  by_cases h1 : o < 0 ∨ k < 0 ∨ (O.length : Int) ≤ k
  · rw [if_pos h1]
    exact .inr (.inl ⟨rfl, h1⟩)
  · rw [if_neg h1]
    by_cases h2 : ownerP O k = o
    · rw [if_pos h2]
      exact .inr (.inr (.inl ⟨rfl, by omega, by omega, by omega, h2⟩))
    · rw [if_neg h2]
      by_cases h3 : (heldP O o).any (fun x => decide (k < x)) = true
      · rw [if_pos h3]
        exact .inr (.inr (.inr ⟨by omega, by omega, by omega, by omega, h2, .inl h3⟩))
      · rw [if_neg h3]
        by_cases h4 : 0 ≤ ownerP O k
        · rw [if_pos h4]
          exact .inr (.inr (.inr ⟨by omega, by omega, by omega, by omega, h2, .inr h4⟩))
        · rw [if_neg h4]
          exact .inl rfl

theorem lacquire_any {w : World} {b bm : Nat} {O : List Int} {N : Int} (h : Tab w b bm O N) (hN : N < 10000) (o k : Int) (hoo : okI o) (hk : okI k) :
    Calls Try.prog 13 #[.pointer (some ⟨b, 0, none⟩), .int .i64 o, .int .i64 k] w fun e w' => e = .returned (.int .i64 (acqP O o k)) ∧ Tab w' b bm (acqO O o k) (N + acqN O o k) ∧ TFr b bm w w' := by
  have fail : acqP O o k ≠ 0 → ∀ {c : Nat}, acqP O o k = c → Calls Try.prog 13 #[.pointer (some ⟨b, 0, none⟩), .int .i64 o, .int .i64 k] w (fun e w' => e = .returned (.int .i64 c) ∧ New w w') →
      Calls Try.prog 13 #[.pointer (some ⟨b, 0, none⟩), .int .i64 o, .int .i64 k] w fun e w' => e = .returned (.int .i64 (acqP O o k)) ∧ Tab w' b bm (acqO O o k) (N + acqN O o k) ∧ TFr b bm w w' := by
    intro hne c hc H
    refine H.mono ?_
    rintro e w' ⟨rfl, hn⟩
    have h1 : acqO O o k = O := by unfold acqO; rw [if_neg hne]
    have h2 : acqN O o k = 0 := by unfold acqN; rw [if_neg hne]
    rw [h1, h2, hc]
    exact ⟨rfl, by simpa using h.new hn, New.to hn⟩
  rcases acqP_code O o k with h0 | ⟨h0, hr⟩ | ⟨h0, h1, h2, h3, h4⟩ | ⟨h0, h1, h2, h3, h4, h5⟩
  · refine (lacq_ok h hN o k hoo hk h0).mono ?_
    rintro e w' ⟨rfl, ht, hf⟩
    have h2 : acqN O o k = 1 := by unfold acqN; rw [if_pos h0]
    rw [h2, h0]
    exact ⟨rfl, ht, hf⟩
  · exact fail (by omega) h0 (lacq_range h o k hk hr)
  · exact fail (by omega) h0 (lacq_dup h o k hk h1 h2 h3 h4)
  · exact fail h0 rfl (lacq_past h o k hk h1 h2 h3 h4 h5)

theorem cellAt_relO {O : List Int} (hO : Ows O) (o k : Int) : cellAt (relO O o) k = if k ∈ heldP O o then none else cellAt O k := by
  unfold cellAt
  rw [ownerP_relO]
  by_cases ho : 0 ≤ o
  · by_cases h1 : ownerP O k = o
    · rw [if_pos ((mem_heldP ho).2 h1), if_pos h1, if_neg (by omega)]
    · rw [if_neg (fun h => h1 ((mem_heldP ho).1 h)), if_neg h1]
  · have hne : k ∉ heldP O o := by unfold heldP; rw [if_pos (by omega)]; simp
    rw [if_neg hne]
    have hlo := ownerP_lo hO k
    by_cases h1 : ownerP O k = o
    · rw [if_pos h1, if_neg (by omega), if_neg (by omega)]
    · rw [if_neg h1]

set_option maxHeartbeats 1600000 in
theorem lrelease_any {w : World} {b bm : Nat} {O : List Int} {N : Int} (h : Tab w b bm O N) (o : Int) :
    Calls Try.prog 18 #[.pointer (some ⟨b, 0, none⟩), .int .i64 o] w fun e w' => e = .returned (.int .i64 (heldP O o).length) ∧ Tab w' b bm (relO O o) N ∧ TFr b bm w w' := by
  have hhl := heldP_len O o
  have hOl := h.len
  have hlt := h.blk.lt
  go_enter Try.func18, Try.ntmps18
  go_wp2_with fail
  refine (lheld_any h o).mono ?_
  rintro e w1 ⟨v, rfl, hv, hn1⟩
  have h1 := h.new hn1
  obtain ⟨l, hm, hll, hg⟩ := h1.map
  have hokh : ∀ x ∈ heldP O o, okI x := fun x hx => WalkArith.wf_i64 (by have := heldP_range hx; omega)
  have HOK := Lib.hid hokh
  have HRO := Lib.hid (cellAt_relO h.ows o)
  generalize hH : heldP O o = H at *
  have HV := Lib.hid hv
  have hs1 := hn1.size
  have hbk := h1.blk
  have HEQ := Lib.hid hH
  clear hokh hH
  obtain ⟨A, c, rfl, hc, hA⟩ := hv.rd.ints
  have HA := Lib.hid hA
  clear hA hv
  go_wp2
  go_loopw [13] (fun vi wr => ∃ (k : Nat) (L : List (Int × Value)), k ≤ H.length ∧ vi = .int .i64 k ∧ HasMap iKeys wr bm L ∧ (L.length : Int) ≤ N ∧ Hid (∀ j, okI j → get L j = if j ∈ H.take k then none else cellAt O j) ∧ One bm w1 wr) (fun vi _ => H.length - (intOf vi).toNat)
  case atStart => exact ⟨0, l, Nat.zero_le _, rfl, hm, hll, (fun j hj => by rw [List.take_zero, if_neg (by simp)]; exact hg j hj), One.refl _ _⟩
  case round =>
    obtain ⟨k, L, hk, rfl, hL, hLl, HG, hO⟩ := hrel
    clear hg hm hll
    have hbr : Blk wr b 66 #[.int .i64 O.length, .map (some bm), .int .i64 N] := hO.blk hbk h.ne
    by_cases hkl : k < H.length
    · obtain ⟨x, hx⟩ : ∃ x, H[k]? = some x := ⟨_, List.getElem?_eq_getElem hkl⟩
      obtain ⟨g, off, rfl, hcell⟩ := HA.out (by rintro rfl; simp at hkl)
      have hgb : w.heap.size ≤ g := (HV.out.block rfl).1
      have hbml := h.ltm
      have c0 : wr.cell? ⟨g, off + k, none⟩ = some (.int .i64 x) := Fr.cell hO (hcell k _ hx) (by show ¬ g = bm; omega)
      have c1 : wr.cell? ⟨b, 1, none⟩ = some (.map (some bm)) := hbr.cell 1
      have hxo := HOK.out x (List.mem_of_getElem? hx)
      have HX := Lib.hid hx
      clear hcell hx
      go_wp2_with (at_delete; refine wpList_del (E := iKeys) rfl _ _ 59 3 rfl Try.underlying59 hL x hxo rfl rfl ?_; intro w2 hL2 ho2)
      go_roundw
      case rel =>
        refine ⟨k + 1, del L x, by omega, by go_num, hL2, ?_, ?_, hO.trans ho2⟩
        · have := List.length_filter_le (fun p : Int × Value => decide (p.1 ≠ x)) L
          show ((del L x).length : Int) ≤ N
          unfold del
          omega
        · intro j hj
          rw [take_snocI HX.out]
          by_cases hjx : j = x
          · subst hjx
            rw [get_del_same, if_pos (by simp)]
          · rw [get_del_other L hjx, HG.out j hj]
            by_cases hm : j ∈ H.take k
            · rw [if_pos hm, if_pos (List.mem_append_left _ hm)]
            · rw [if_neg hm, if_neg (by rw [List.mem_append]; rintro (h1 | h1); exact hm h1; exact hjx (List.mem_singleton.1 h1))]
      case measure => simp [intOf]; omega
    · obtain rfl : k = H.length := by omega
      have hfin : Tab wr b bm (relO O o) N := by
        refine ⟨by rw [relO_len]; exact hbr, ⟨L, hL, hLl, fun j hj => ?_⟩, relO_ows h.ows o, ?_, by rw [relO_len]; exact h.len, h.hi⟩
        · have := HG.out j hj
          rw [List.take_length] at this
          rw [HRO.out j]
          exact this
        · intro x hx
          unfold relO at hx
          obtain ⟨y, hy, rfl⟩ := List.mem_map.1 hx
          split
          · decide
          · exact h.ok y hy
      have HF := Lib.hid hfin
      clear hfin
      go_wp2
      go_ret
      exact ⟨by rw [HEQ.out]; rfl, HF.out, (New.to hn1).trans' hO fun i hi e => Or.inr e⟩

end Go.Proofs.Ytflalhciohdahaa
