/- LockTwoPhase: a slice of slices of integers; one turn of an owner. -/
import Derived.Test.YtflalhciohdahaaLockPair
import Derived.Test.YtflalhciohdahaaTwoP
namespace Go.Proofs.Ytflalhciohdahaa
open Go.RowKit

/-- A slice that stands in a cell, and what it reads as. -/
structure Sli where
  A : Option Addr
  c : Nat
  l : List Int
abbrev Sli.v (x : Sli) : Value := .slice x.A x.l.length x.c
def slE : Elem Sli where
  enc x := [x.v]
  sz := 1
  len _ := rfl
  one x u hu := by simp at hu; subst hu; rfl
  pos := by omega

/-- The slice reads as its list; its block holds integers. -/
def Sli.ok (w : World) (x : Sli) : Prop := Rd (intE .i64) w x.v x.l ∧ (∀ g, x.v.ownBlock = some g → ∃ cs, Blk w g 3 cs) ∧ x.l.length ≤ 20

theorem Sli.ok.fr {S : Nat → Prop} {w w' : World} {x : Sli} (h : x.ok w) (hf : Fr S w w') (hS : ∀ g cs, S g → ¬ Blk w g 3 cs) : x.ok w' := by
  have hn : ∀ b, x.v.ownBlock = some b → ¬ S b := fun b hb hs => by
    obtain ⟨cs, hc⟩ := h.2.1 b hb
    exact hS b cs hs hc
  refine ⟨h.1.fr hf hn, fun g hg => ?_, h.2.2⟩
  obtain ⟨cs, hc⟩ := h.2.1 g hg
  exact ⟨cs, Fr.blk hf hc (hn g hg)⟩

/-- Block bl is a variable that holds the slice lv, whose elements are xs. -/
structure Lists (base : Nat) (w : World) (bl : Nat) (lv : Value) (xs : List Sli) : Prop where
  blk : Blk w bl 55 #[lv]
  own : Own slE 30 base w lv xs
  ok : ∀ x ∈ xs, x.ok w

theorem Lists.fr {S : Nat → Prop} {base : Nat} {w w' : World} {bl : Nat} {lv : Value} {xs : List Sli} (h : Lists base w bl lv xs) (hf : Fr S w w') (hb : ¬ S bl) (hv : ∀ b, lv.ownBlock = some b → ¬ S b) (hS : ∀ g cs, S g → ¬ Blk w g 3 cs) : Lists base w' bl lv xs :=
  ⟨Fr.blk hf h.blk hb, h.own.fr hf hv, fun x hx => (h.ok x hx).fr hf hS⟩
theorem Lists.new {base : Nat} {w w' : World} {bl : Nat} {lv : Value} {xs : List Sli} (h : Lists base w bl lv xs) (hf : New w w') : Lists base w' bl lv xs := h.fr hf id (fun _ _ => id) fun _ _ h => h.elim

/-- What the table's operations turn leaves the lists. -/
theorem Lists.tfr {base : Nat} {w w' : World} {b bm bl : Nat} {lv : Value} {xs : List Sli} {O : List Int} {N : Int} (h : Lists base w bl lv xs) (ht : Tab w b bm O N) (hf : TFr b bm w w') : Lists base w' bl lv xs := by
  obtain ⟨l, hm, _⟩ := ht.map
  refine h.fr hf (fun hs => ?_) (fun q hq hs => ?_) (fun g cs hs hc => ?_)
  · rcases hs with hs | hs
    · exact ht.blk.ne_ h.blk (by decide) hs.symm
    · exact h.blk.not_map hm hs
  · rcases hs with rfl | rfl
    · exact h.own.blk_ne ht.blk (by decide) hq
    · exact h.own.not_map hm hq
  · rcases hs with rfl | rfl
    · exact ht.blk.ne_ hc (by decide) rfl
    · exact hc.not_map hm rfl

/-- What a turn may turn. -/
abbrev SFr (b bm : Nat) (lv : Value) (w w' : World) : Prop := Fr (fun k => k = b ∨ k = bm ∨ lv.ownBlock = some k) w w'

theorem Lists.cell {base : Nat} {w : World} {bl g n c : Nat} {xs : List Sli} (h : Lists base w bl (.slice (some ⟨g, 0, none⟩) n c) xs) {i : Nat} {x : Sli} (hx : xs[i]? = some x) : w.cell? ⟨g, i, none⟩ = some x.v := by
  have := World.ownsRow.cells h.own (g := g) rfl _ _ (slE.cells_at hx (j := 0) rfl)
  rw [Addr.add_lit, Nat.zero_add] at this
  simpa [slE] using this
theorem slE_cells (l : List Sli) : slE.cells l = l.map Sli.v := by
  unfold Elem.cells
  induction l with
  | nil => rfl
  | cons x l ih => rw [List.flatMap_cons, ih, List.map_cons]; rfl
theorem Own.sstored {e base : Nat} {w : World} {g n c : Nat} {l : List Sli} (h : Own slE e base w (.slice (some ⟨g, 0, none⟩) n c) l) (k : Nat) (y : Sli) : Own slE e base (w.setCell ⟨g, k, none⟩ y.v) (.slice (some ⟨g, 0, none⟩) n c) (l.set k y) := by
  obtain ⟨A, c', he, _⟩ := Own.form h
  injection he with h1 h2 h3
  subst h2
  unfold Own at h ⊢
  have h2 := (h.stored k y.v).1
  rw [List.length_set]
  rw [slE_cells] at h2 ⊢
  rw [List.map_set]
  exact h2
theorem Own.ssome {e base : Nat} {w : World} {A : Option Addr} {n c : Nat} {l : List Sli} (h : Own slE e base w (.slice A n c) l) (hl : 0 < n) : ∃ g, A = some ⟨g, 0, none⟩ := by
  rcases h.2 with ⟨h1, _⟩ | ⟨g, _, _, h1, _⟩
  · injection h1 with _ h2; omega
  · injection h1 with h2; exact ⟨g, h2⟩

set_option maxRecDepth 100000 in
set_option maxHeartbeats 6400000 in
theorem step_any {base : Nat} {w : World} {b bm bl bt : Nat} {lv : Value} {xs : List Sli} {O : List Int} {N : Int} (ht : Tab w b bm O N) (hbt : Blk w bt 23 #[.pointer (some ⟨b, 0, none⟩)]) (hL : Lists base w bl lv xs)
    (hI : TwoInv O (xs.map Sli.l)) (hN : N < 10000) (hxl : xs.length ≤ 10) (i : Nat) (hi : i < xs.length) :
    Calls Try.prog 29 #[.int .i64 i, .pointer (some ⟨bl, 0, none⟩), .pointer (some ⟨bt, 0, none⟩)] w fun e w' => e = .returned (.bool true) ∧ ∃ xs' N', Tab w' b bm (stepP O (xs.map Sli.l) i).1 N' ∧ Lists base w' bl lv xs' ∧
      xs'.map Sli.l = (stepP O (xs.map Sli.l) i).2 ∧ N' + wantP (xs'.map Sli.l) = N + wantP (xs.map Sli.l) ∧ SFr b bm lv w w' := by
  obtain ⟨A, c, rfl, hc⟩ := hL.own.form
  obtain ⟨gg, rfl⟩ := hL.own.ssome (by omega)
  obtain ⟨x, hx⟩ : ∃ x, xs[i]? = some x := ⟨_, List.getElem?_eq_getElem hi⟩
  have hxok := hL.ok x (List.mem_of_getElem? hx)
  have c0 : w.cell? ⟨bl, 0, none⟩ = some (.slice (some ⟨gg, 0, none⟩) xs.length c) := hL.blk.cell 0
  have c1 : w.cell? ⟨bt, 0, none⟩ = some (.pointer (some ⟨b, 0, none⟩)) := hbt.cell 0
  have c2 : w.cell? ⟨gg, i, none⟩ = some x.v := hL.cell hx
  have hlx : (xs.map Sli.l)[i]? = some x.l := by rw [List.getElem?_map, hx]; rfl
  have hasc := hI.asc _ (List.mem_of_getElem? hlx)
  obtain ⟨xA, xc, xl⟩ := x
  dsimp only [Sli.v] at c2 hxok hlx hasc
  have HX := Lib.hid hx
  have HLX := Lib.hid hlx
  have HI := Lib.hid hI
  clear hx hI hlx
  cases xl with
  | nil =>
    have hst := stepP_nil (O := O) HLX.out
    rw [hst]
    clear hst hxok hasc
    go_enter Try.func29, Try.ntmps29
    go_wp2_with fail
    refine (lrelease_any ht i).mono ?_
    rintro e w1 ⟨rfl, ht1, hf1⟩
    have hL1 := hL.tfr ht hf1
    go_wp2
    go_ret
    exact ⟨rfl, xs, N, ht1, hL1, rfl, rfl, hf1.mono fun k _ hk => by rcases hk with hk | hk; exact .inl hk; exact .inr (.inl hk)⟩
  | cons y ys =>
    have hokl : ∀ z ∈ y :: ys, okI z := fun z hz => WalkArith.wf_i64 (by have := hasc.2 z hz; omega)
    have HOKL := Lib.hid hokl
    have hlen : ((y :: ys).length : Int) = (ys.length : Int) + 1 := by simp
    have hz0 : ((((y :: ys).length : Nat) : Int) == 0) = false := by simp; omega
    have hyl : (y :: ys).length ≤ 20 := hxok.2.2
    obtain ⟨A1, c1', he1, hc1, hA1⟩ := hxok.1.ints
    injection he1 with e1 e2 e3
    subst e1 e3
    obtain ⟨hb', hoff, hAe, hcell⟩ := hA1 (by simp)
    subst hAe
    have d0 : w.cell? ⟨hb', hoff, none⟩ = some (.int .i64 y) := hcell 0 y rfl
    have hint := hxok.2.1 hb' rfl
    have HINT := Lib.hid hint
    have HRD := Lib.hid hxok
    clear hokl hasc hxok hcell hA1 e2 hint
    have hlen1 : 0 < (y :: ys).length := by simp
    generalize hn : (y :: ys).length = n at *
    have HNL := Lib.hid hn
    have HLEN := Lib.hid hlen
    have h1n : (1 : Int) ≤ n := by omega
    clear hn hlen
    have hd1 := hbt.drew
    have hL1 := hL.new ((New.refl w).drew)
    have ht1 := ht.new ((New.refl w).drew)
    cases hblk : blockedP O i (y :: ys) with
    | true =>
      have hst := stepP_blocked HLX.out hblk
      rw [hst]
      have HB := Lib.hid hblk
      clear hst hblk
      go_enter Try.func29, Try.ntmps29
      go_wp2_with fail
      refine wp_tail 6 (by kernel_rfl) (by kernel_rfl) ?_
      simp only [List.take_succ_cons, List.take_zero, List.drop_succ_cons, List.drop_zero]
      repeat still_step
      refine wpStill_nil ?_
      go_wp2_with fail
      have hrd : Rd (intE .i64) w.drew (.slice (some ⟨hb', hoff, none⟩) n xc) (y :: ys) := by rw [← HNL.out]; exact HRD.out.1.drew
      refine (lblocked_any ht1 i _ _ hrd HOKL.out (by rw [HNL.out]; omega)).mono ?_
      rw [HB.out]
      rintro e w2 ⟨rfl, hn2⟩
      have hn3 := ((New.refl w).drew).trans hn2
      go_wp2
      go_ret
      exact ⟨rfl, xs, N, ht.new hn3, hL.new hn3, rfl, rfl, New.to hn3⟩
    | false =>
      have hst := stepP_acq HLX.out hblk
      rw [hst]
      have HB := Lib.hid hblk
      have hacq := HI.out.acq HLX.out hblk
      have HACQ := Lib.hid hacq
      clear hst hblk hacq
      go_enter Try.func29, Try.ntmps29
      go_wp2_with fail
      refine wp_tail 6 (by kernel_rfl) (by kernel_rfl) ?_
      simp only [List.take_succ_cons, List.take_zero, List.drop_succ_cons, List.drop_zero]
      repeat still_step
      refine wpStill_nil ?_
      go_wp2_with fail
      have hrd : Rd (intE .i64) w.drew (.slice (some ⟨hb', hoff, none⟩) n xc) (y :: ys) := by rw [← HNL.out]; exact HRD.out.1.drew
      refine (lblocked_any ht1 i _ _ hrd HOKL.out (by rw [HNL.out]; omega)).mono ?_
      rw [HB.out]
      rintro e w2 ⟨rfl, hn2⟩
      have hn3 := ((New.refl w).drew).trans hn2
      have ht3 := ht.new hn3
      have hL3 := hL.new hn3
      have hb3 := hn3.blk hbt
      have g0 : w2.cell? ⟨bl, 0, none⟩ = some (.slice (some ⟨gg, 0, none⟩) xs.length c) := Fr.cell hn3 c0 id
      have g1 : w2.cell? ⟨bt, 0, none⟩ = some (.pointer (some ⟨b, 0, none⟩)) := Fr.cell hn3 c1 id
      have g2 : w2.cell? ⟨gg, i, none⟩ = some (.slice (some ⟨hb', hoff, none⟩) n xc) := Fr.cell hn3 c2 id
      have g3 : w2.cell? ⟨hb', hoff, none⟩ = some (.int .i64 y) := Fr.cell hn3 d0 id
      have ht4 := ht3.new ((New.refl w2).drew)
      have hL4 := hL3.new ((New.refl w2).drew)
      clear hL1 ht1 hd1
      go_wp2_with fail
      refine wp_tail 8 (by kernel_rfl) (by kernel_rfl) ?_
      simp only [List.take_succ_cons, List.take_zero, List.drop_succ_cons, List.drop_zero]
      repeat still_step
      refine wpStill_nil ?_
      go_wp2_with fail
      refine (lacquire_any ht4 hN i y (WalkArith.wf_i64 (by omega)) (HOKL.out y List.mem_cons_self)).mono ?_
      rw [HACQ.out]
      rintro e w5 ⟨rfl, ht5, hf5⟩
      have hL5 := hL4.tfr ht4 hf5
      have hf25 : SFr b bm (.slice (some ⟨gg, 0, none⟩) xs.length c) w w5 := (New.to (hn3.drew)).trans' hf5 fun k _ hk => by rcases hk with hk | hk; exact .inl hk; exact .inr (.inl hk)
      have k0 : w5.cell? ⟨bl, 0, none⟩ = some (.slice (some ⟨gg, 0, none⟩) xs.length c) := hL5.blk.cell 0
      have k2 : w5.cell? ⟨gg, i, none⟩ = some (.slice (some ⟨hb', hoff, none⟩) n xc) := by
        have := hL5.cell HX.out
        rw [this]
        show some (Value.slice _ (y :: ys).length _) = _
        rw [HNL.out]
      have kf : w5.drew.frozen? ⟨gg, i, none⟩ = false := World.ownsRow.frozenAt hL5.own i
      have fin : ∀ (A' : Option Addr) (c' : Nat) (w6 : World), (A' = some ⟨hb', hoff, none⟩ ∧ xc = 1 ∨ A' = some ⟨hb', hoff + 1, none⟩) → c' = xc - 1 → w6 = (w5.setCell ⟨gg, i, none⟩ (.slice A' (n - 1) c')).drew → ∃ xs' N', Tab w6 b bm (acqO O i y) N' ∧ Lists base w6 bl (.slice (some ⟨gg, 0, none⟩) xs.length c) xs' ∧
          xs'.map Sli.l = (xs.map Sli.l).set i ys ∧ N' + wantP (xs'.map Sli.l) = N + wantP (xs.map Sli.l) ∧ SFr b bm (.slice (some ⟨gg, 0, none⟩) xs.length c) w w6 := by
        rintro A' c' w6 hA' rfl rfl
        have hlen := HLEN.out
        have hys : n - 1 = ys.length := by omega
        have hf6 : Fr (fun k => k = gg) w5 (w5.setCell ⟨gg, i, none⟩ (.slice A' (n - 1) (xc - 1))).drew := (Fr.setCell (S := fun k => k = gg) (p := ⟨gg, i, none⟩) (Fr.refl _ w5) (fun _ => rfl) _).drew
        obtain ⟨l, hm, _⟩ := ht5.map
        have hggb : ¬ b = gg := fun e => hL5.own.blk_ne ht5.blk (by decide) (by rw [e]; rfl)
        have hggm : ¬ bm = gg := fun e => hL5.own.not_map hm (by rw [e]; rfl)
        have hggl : ¬ bl = gg := fun e => hL5.own.blk_ne hL5.blk (by decide) (by rw [e]; rfl)
        have hggi : ∀ g cs, g = gg → ¬ Blk w5 g 3 cs := fun g cs e hc => hL5.own.blk_ne hc (by decide) (by rw [e]; rfl)
        have hmap : (xs.set i ⟨A', xc - 1, ys⟩).map Sli.l = (xs.map Sli.l).set i ys := by rw [List.map_set]
        refine ⟨xs.set i ⟨A', xc - 1, ys⟩, N + acqN O i y, ht5.fr hf6 hggb hggm, ⟨Fr.blk hf6 hL5.blk hggl, ?_, fun z hz => ?_⟩, hmap, ?_, ?_⟩
        · have := (hL5.own.sstored i ⟨A', xc - 1, ys⟩).drew
          rw [hys]
          exact this
        · rcases List.mem_or_eq_of_mem_set hz with h1 | h1
          · exact (hL5.ok z h1).fr hf6 hggi
          · have h5 : Sli.ok w5 ⟨some ⟨hb', hoff, none⟩, xc, y :: ys⟩ := hL5.ok _ (List.mem_of_getElem? HX.out)
            have h6 : Sli.ok w5 z := by
              subst h1
              refine ⟨⟨A', xc - 1, rfl, by show ys.length ≤ xc - 1; rw [← hys]; omega, fun hne => ?_⟩, fun g hg => ?_, by show ys.length ≤ 20; omega⟩
              · have hA2 : A' = some ⟨hb', hoff + 1, none⟩ := by
                  rcases hA' with ⟨_, h⟩ | h
                  · exact absurd (List.eq_nil_of_length_eq_zero (by show ys.length = 0; omega)) hne
                  · exact h
                subst hA2
                obtain ⟨A2, c2', he2, _, hA2⟩ := h5.1
                obtain ⟨b2, off2, hAe2, hc2⟩ := hA2 (by simp)
                injection he2 with e1 _ _
                rw [← e1] at hAe2
                injection hAe2 with hAe2
                injection hAe2 with hb2 ho2
                subst hb2 ho2
                refine ⟨hb', hoff + 1, rfl, fun j z hj k u hu => ?_⟩
                have := hc2 (j + 1) z (by simpa using hj) k u hu
                have e3 : hoff + ((j + 1) * (intE .i64).sz + k) = hoff + 1 + (j * (intE .i64).sz + k) := by simp [intE]; omega
                rw [e3] at this
                exact this
              · refine h5.2.1 g ?_
                rcases hA' with ⟨h, _⟩ | h <;> (subst h; exact hg)
            exact h6.fr hf6 hggi
        · rw [hmap]
          have h1 : acqN O i y = 1 := by unfold acqN; rw [if_pos HACQ.out]
          have h2 := wantP_set HLX.out
          rw [h1]
          omega
        · exact hf25.trans' hf6 fun k _ hk => .inr (.inr (by rw [hk]; rfl))
      have HFIN := Lib.hid fin
      clear fin
      have kc : w5.drew.cell? ⟨gg, i, none⟩ = some (.slice (some ⟨hb', hoff, none⟩) n xc) := k2
      by_cases hx1 : xc = 1
      · go_wp2_with fail
        refine wp_tail 8 (by kernel_rfl) (by kernel_rfl) ?_
        simp only [List.take_succ_cons, List.take_zero, List.drop_succ_cons, List.drop_zero]
        repeat still_step
        refine wpStill_nil ?_
        go_wp2
        go_ret
        exact ⟨rfl, HFIN.out _ _ _ (.inl ⟨rfl, hx1⟩) (by omega) rfl⟩
      · go_wp2_with fail
        refine wp_tail 8 (by kernel_rfl) (by kernel_rfl) ?_
        simp only [List.take_succ_cons, List.take_zero, List.drop_succ_cons, List.drop_zero]
        repeat still_step
        refine wpStill_nil ?_
        go_wp2
        go_ret
        exact ⟨rfl, HFIN.out _ _ _ (.inr rfl) rfl rfl⟩

end Go.Proofs.Ytflalhciohdahaa
