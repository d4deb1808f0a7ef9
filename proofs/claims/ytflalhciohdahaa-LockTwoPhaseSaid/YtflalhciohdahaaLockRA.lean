/- The reference of chapter 14: Acquire. -/
import Derived.Test.YtflalhciohdahaaLockR
namespace Go.Proofs.Ytflalhciohdahaa
open Go.RowKit

theorem any_last {l : List Int} (hs : l.Pairwise (· < ·)) (k : Int) {y : Int} (hy : l[l.length - 1]? = some y) : l.any (fun x => decide (k < x)) = decide (k < y) := by
  have hym : y ∈ l := List.mem_of_getElem? hy
  have hmax : ∀ x ∈ l, x ≤ y := by
    intro x hx
    obtain ⟨i, hi⟩ := List.mem_iff_getElem?.1 hx
    have hil := (List.getElem?_eq_some_iff.1 hi)
    have hyl := (List.getElem?_eq_some_iff.1 hy)
    rcases Nat.lt_or_ge i (l.length - 1) with h1 | h1
    · have := (List.pairwise_iff_getElem.1 hs) i (l.length - 1) hil.1 hyl.1 h1
      rw [hil.2, hyl.2] at this
      omega
    · obtain ⟨h2, h3⟩ := hil
      obtain rfl : i = l.length - 1 := by omega
      rw [hi] at hy
      injection hy with hy
      omega
  by_cases h : k < y
  · rw [decide_eq_true h]
    exact List.any_eq_true.2 ⟨y, hym, decide_eq_true h⟩
  · rw [decide_eq_false h]
    exact List.any_eq_false.2 fun x hx => by have := hmax x hx; simp; omega

set_option maxRecDepth 100000 in
set_option maxHeartbeats 3200000 in
theorem racquire_any {base : Nat} {w : World} {g : Nat} {v : Value} {O : List Int} {N : Int} (h : RTab base w g v O N) (hl : O.length ≤ 1000) (hN0 : 0 ≤ N) (hN1 : N < 10000) (o k : Int) :
    Calls Try.prog 15 #[.pointer (some ⟨g, 0, none⟩), .int .i64 o, .int .i64 k] w fun e w' => e = .returned (.int .i64 (acqP O o k)) ∧ RTab base w' g v (acqO O o k) (N + acqN O o k) ∧ RFr g v w w' := by
  have hb := h.blk
  have hov := h.own
  have hne := h.ne
  obtain ⟨A, c, rfl, hc⟩ := h.own.form
  have c0 : w.cell? ⟨g, 0, none⟩ = some (.slice A O.length c) := h.blk.cell 0
  have c1 : w.cell? ⟨g, 1, none⟩ = some (.int .i64 N) := h.blk.cell 1
  have fail : acqP O o k ≠ 0 → ∀ w', New w w' → RTab base w' g (.slice A O.length c) (acqO O o k) (N + acqN O o k) ∧ RFr g (.slice A O.length c) w w' := by
    intro h0 w' hn
    have h1 : acqO O o k = O := by unfold acqO; rw [if_neg h0]
    have h2 : acqN O o k = 0 := by unfold acqN; rw [if_neg h0]
    rw [h1, h2]
    exact ⟨by simpa using h.new hn, New.to hn⟩
  have HFAIL := Lib.hid fail
  have HNE := Lib.hid hne
  clear fail hne
  obtain ⟨cc, hcc⟩ : ∃ cc, acqP O o k = cc := ⟨_, rfl⟩
  rw [hcc]
  rw [hcc] at HFAIL
  by_cases hr : o < 0 ∨ k < 0 ∨ (O.length : Int) ≤ k
  · have hp : cc = 2 := by rw [← hcc]; unfold acqP; rw [if_pos hr]
    subst hp
    clear hcc
    by_cases ho : o < 0
    · clear hr
      go_enter Try.func15, Try.ntmps15
      go_wp2
      go_ret
      exact ⟨rfl, HFAIL.out (by decide) _ (New.refl _)⟩
    · have ho' : decide (o < 0) = false := decide_eq_false ho
      by_cases hk0 : k < 0
      · clear hr ho
        go_enter Try.func15, Try.ntmps15
        go_wp2
        go_ret
        exact ⟨rfl, HFAIL.out (by decide) _ (New.refl _)⟩
      · have hk' : decide (k < 0) = false := decide_eq_false hk0
        have hc' : (O.length : Int) ≤ k := by omega
        have hd' : decide ((O.length : Int) ≤ k) = true := decide_eq_true hc'
        clear hr ho hk0
        go_enter Try.func15, Try.ntmps15
        go_wp2
        go_ret
        exact ⟨rfl, HFAIL.out (by decide) _ (New.refl _)⟩
  · have ho' : decide (o < 0) = false := decide_eq_false (by omega)
    have hk' : decide (k < 0) = false := decide_eq_false (by omega)
    have hd' : decide ((O.length : Int) ≤ k) = false := decide_eq_false (by omega)
    obtain ⟨i, rfl⟩ : ∃ i : Nat, k = i := ⟨k.toNat, by omega⟩
    have hd2 : decide (O.length ≤ i) = false := decide_eq_false (by omega)
    obtain ⟨x, hx⟩ : ∃ x, O[i]? = some x := ⟨_, List.getElem?_eq_getElem (by omega)⟩
    have hro : ownerP O i = x := by rw [ownerP_nat, List.getD_eq_getElem?_getD, hx]; rfl
    obtain ⟨gg, rfl⟩ := hov.some1 (by omega)
    have e0 : w.cell? ⟨gg, i, none⟩ = some (.int .i64 x) := hov.icell hx
    have hil : i < O.length := by omega
    have hacc : acqP O o i = if x = o then 8 else if (heldP O o).any (fun x => decide ((i : Int) < x)) then 10 else if 0 ≤ x then 9 else 0 := by
      unfold acqP
      rw [if_neg (by omega), hro]
    rw [hcc] at hacc
    have HACC := Lib.hid hacc
    have HCC := Lib.hid hcc
    clear hro hr hx hacc hcc
    by_cases hxo : x = o
    · subst hxo
      have h8 := HACC.out
      rw [if_pos rfl] at h8
      subst h8
      go_enter Try.func15, Try.ntmps15
      go_wp2
      go_ret
      exact ⟨rfl, HFAIL.out (by decide) _ (New.refl _)⟩
    · have hq : (x == o) = false := by simp [hxo]
      go_enter Try.func15, Try.ntmps15
      go_wp2_with fail
      refine (rheld_any _ O N o w hov.rd hl).mono ?_
      rintro e w1 ⟨u, rfl, hu, hn1⟩
      have hb1 := hn1.blk hb
      have hov1 := hov.new hn1
      have hls := fun (y : Int) (hy : (heldP O o)[(heldP O o).length - 1]? = some y) => any_last (heldP_sorted O o) i hy
      have hHl := heldP_len O o
      have HSH : Hid (cc = if (heldP O o).any (fun x => decide ((i : Int) < x)) then 10 else if 0 ≤ x then 9 else 0) := by
        have := HACC.out
        rw [if_neg hxo] at this
        exact this
      generalize heldP O o = H at *
      have d0 : w1.cell? ⟨g, 0, none⟩ = some (.slice (some ⟨gg, 0, none⟩) O.length c) := hb1.cell 0
      have d1 : w1.cell? ⟨g, 1, none⟩ = some (.int .i64 N) := hb1.cell 1
      have d2 : w1.cell? ⟨gg, i, none⟩ = some (.int .i64 x) := Fr.cell hn1 e0 id
      have HLS := Lib.hid hls
      clear hls
      obtain ⟨B, d, rfl, hd, hB⟩ := hu.rd.ints
      have HB := Lib.hid hB
      have hult : ∀ b, (Value.slice B H.length d).ownBlock = some b → w.heap.size ≤ b := fun b hb => (hu.block hb).1
      clear hB hu hult
      have fin : H.any (fun x => decide ((i : Int) < x)) = false → x < 0 → cc = 0 := by
        intro h1 h2
        rw [HSH.out, h1, if_neg (by simp), if_neg (by omega)]
      have tail : ∀ w2, w2 = (w1.setCell ⟨gg, i, none⟩ (.int .i64 o)).setCell ⟨g, 1, none⟩ (.int .i64 (N + 1)) → cc = 0 → RTab base w2 g (.slice (some ⟨gg, 0, none⟩) O.length c) (acqO O o i) (N + acqN O o i) ∧ RFr g (.slice (some ⟨gg, 0, none⟩) O.length c) w w2 := by
        rintro w2 rfl h0
        have h1 : acqO O o i = O.set i o := by unfold acqO; rw [if_pos (HCC.out.trans h0)]; rfl
        have h2 : acqN O o i = 1 := by unfold acqN; rw [if_pos (HCC.out.trans h0)]
        rw [h1, h2]
        have hgne : gg ≠ g := fun e => HNE.out (by rw [e]; rfl)
        refine ⟨⟨(hb1.far (p := ⟨gg, i, none⟩) (fun e => hgne e.symm) _).set_ 1 _, ?_⟩, ?_⟩
        · exact (hov1.istored i o).fr ((One.refl g _).set 1 _) (fun b hb e => hgne (by cases hb; exact e))
        · exact (Fr.setCell (p := ⟨gg, i, none⟩) (New.to hn1) (fun _ => Or.inr rfl) _).trans (Fr.setCell (p := ⟨g, 1, none⟩) (Fr.refl _ _) (fun _ => Or.inl rfl) _)
      have HT := Lib.hid tail
      have HFIN := Lib.hid fin
      clear tail fin
      have g0 : w1.frozen? ⟨gg, i, none⟩ = false := hov1.ifrozen _
      have g1 : w1.frozen? ⟨g, 1, none⟩ = false := hb1.frozen 1
      have hgne : gg ≠ g := fun e => HNE.out (by rw [e]; rfl)
      have hbf := hb1.far (p := ⟨gg, i, none⟩) (fun e => hgne e.symm) (.int .i64 o)
      have k1 : (w1.setCell ⟨gg, i, none⟩ (.int .i64 o)).cell? ⟨g, 1, none⟩ = some (.int .i64 N) := hbf.cell 1
      have k2 : (w1.setCell ⟨gg, i, none⟩ (.int .i64 o)).frozen? ⟨g, 1, none⟩ = false := hbf.frozen 1
      clear hgne
      rcases Nat.eq_zero_or_pos H.length with h0 | h0
      · obtain rfl := List.eq_nil_of_length_eq_zero h0
        by_cases hx0 : 0 ≤ x
        · have h9 := HSH.out
          rw [if_neg (by simp), if_pos hx0] at h9
          subst h9
          go_wp2
          go_ret
          exact ⟨rfl, HFAIL.out (by decide) _ hn1⟩
        · have h9 := HFIN.out rfl (by omega)
          subst h9
          go_wp2
          go_ret
          exact ⟨rfl, HT.out _ rfl trivial⟩
      · obtain ⟨y, hy⟩ : ∃ y, H[H.length - 1]? = some y := ⟨_, List.getElem?_eq_getElem (by omega)⟩
        obtain ⟨hbb, hoff, rfl, hcell⟩ := HB.out (by rintro rfl; simp at h0)
        have k0 : w1.cell? ⟨hbb, hoff + (H.length - 1), none⟩ = some (.int .i64 y) := hcell _ _ hy
        have hany := HLS.out y hy
        have HANY := Lib.hid hany
        clear hcell hany hy
        by_cases hiy : (i : Int) < y
        · have h9 := HSH.out
          rw [HANY.out, if_pos (decide_eq_true hiy)] at h9
          subst h9
          go_wp2
          go_ret
          exact ⟨rfl, HFAIL.out (by decide) _ hn1⟩
        · by_cases hx0 : 0 ≤ x
          · have h9 := HSH.out
            rw [HANY.out, if_neg (by simpa using hiy), if_pos hx0] at h9
            subst h9
            go_wp2
            go_ret
            exact ⟨rfl, HFAIL.out (by decide) _ hn1⟩
          · have h9 := HFIN.out (by rw [HANY.out]; simpa using hiy) (by omega)
            subst h9
            go_wp2
            go_ret
            exact ⟨rfl, HT.out _ rfl trivial⟩

end Go.Proofs.Ytflalhciohdahaa
