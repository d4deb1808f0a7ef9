/- The table of locks: Acquire. -/
import Derived.Test.YtflalhciohdahaaLockHeld
namespace Go.Proofs.Ytflalhciohdahaa
open Go.RowKit

theorem acq1_pred {w : World} (k : Int) (g : Nat) (hg : Blk w g 3 #[.int .i64 k]) : IsPredI w 30 #[.pointer (some ⟨g, 0, none⟩)] (fun x => decide (k < x)) := by
  intro W x _ hn
  have c0 : W.cell? ⟨g, 0, none⟩ = some (.int .i64 k) := (hn.blk hg).cell 0
  show Calls Try.prog 30 #[.int .i64 x, .pointer (some ⟨g, 0, none⟩)] W fun e w' => e = .returned (.bool (decide (k < x))) ∧ New W w'
  go_enter Try.func30, Try.ntmps30
  go_wp2
  go_ret
  exact ⟨rfl, New.refl _⟩

/-- What stands in the world behind the first part of Acquire: the lock's box. -/
abbrev acqW (w : World) (k : Int) : World := w.alloc (.cells #[.int .i64 k] 3)

set_option maxRecDepth 100000 in
set_option maxHeartbeats 1600000 in
theorem lacq_range {w : World} {b bm : Nat} {O : List Int} {N : Int} (h : Tab w b bm O N) (o k : Int) (hk : okI k) (hc : o < 0 ∨ k < 0 ∨ (O.length : Int) ≤ k) :
    Calls Try.prog 13 #[.pointer (some ⟨b, 0, none⟩), .int .i64 o, .int .i64 k] w fun e w' => e = .returned (.int .i64 2) ∧ New w w' := by
  have hmf : ∀ (fn : Fn) (first cap : Array Value) (w : World), (Instr.makeFunc fn first cap).run Try.prog w = .ok (.func fn first cap) w := fun _ _ _ _ => rfl
  have hlt := h.blk.lt
  have hn1 : New w (acqW w k) := (New.refl w).alloc _
  have h1 := h.new hn1
  have hlk := fun n => (h1.new ((New.refl _).drewN n)).look hk
  have c0 : w.cell? ⟨b, 0, none⟩ = some (.int .i64 O.length) := h.blk.cell 0
  have c1 : w.cell? ⟨b, 1, none⟩ = some (.map (some bm)) := h.blk.cell 1
  generalize decide (0 ≤ ownerP O k) = q at *
  generalize max (ownerP O k) 0 = x at *
  by_cases ho : o < 0
  · clear hc
    go_enter Try.func13, Try.ntmps13
    go_wp2
    go_quiet (fail)
    go_wp2
    go_quiet (fail)
    go_wp2
    go_ret
    first | exact ⟨rfl, (hn1.drewN _).drewN _⟩ | exact ⟨rfl, hn1.drewN _⟩
  · have ho' : decide (o < 0) = false := decide_eq_false ho
    by_cases hk0 : k < 0
    · clear hc ho
      go_enter Try.func13, Try.ntmps13
      go_wp2
      go_quiet (fail)
      go_wp2
      go_quiet (fail)
      go_wp2
      go_ret
      first | exact ⟨rfl, (hn1.drewN _).drewN _⟩ | exact ⟨rfl, hn1.drewN _⟩
    · have hk' : decide (k < 0) = false := decide_eq_false hk0
      have hc' : (O.length : Int) ≤ k := by omega
      have hd' : decide ((O.length : Int) ≤ k) = true := decide_eq_true hc'
      clear hc ho hk0
      go_enter Try.func13, Try.ntmps13
      go_wp2
      go_quiet (fail)
      go_wp2
      go_quiet (fail)
      go_wp2
      go_ret
      first | exact ⟨rfl, (hn1.drewN _).drewN _⟩ | exact ⟨rfl, hn1.drewN _⟩

set_option maxRecDepth 100000 in
set_option maxHeartbeats 1600000 in
theorem lacq_dup {w : World} {b bm : Nat} {O : List Int} {N : Int} (h : Tab w b bm O N) (o k : Int) (hk : okI k) (_ho : 0 ≤ o) (hk0 : 0 ≤ k) (hk1 : k < O.length) (hc : ownerP O k = o) :
    Calls Try.prog 13 #[.pointer (some ⟨b, 0, none⟩), .int .i64 o, .int .i64 k] w fun e w' => e = .returned (.int .i64 8) ∧ New w w' := by
  have hmf : ∀ (fn : Fn) (first cap : Array Value) (w : World), (Instr.makeFunc fn first cap).run Try.prog w = .ok (.func fn first cap) w := fun _ _ _ _ => rfl
  have hlt := h.blk.lt
  have hn1 : New w (acqW w k) := (New.refl w).alloc _
  have h1 := h.new hn1
  have hlk := fun n => (h1.new ((New.refl _).drewN n)).look hk
  rw [hc, show max o 0 = o by omega, decide_eq_true _ho] at hlk
  have c0 : w.cell? ⟨b, 0, none⟩ = some (.int .i64 O.length) := h.blk.cell 0
  have c1 : w.cell? ⟨b, 1, none⟩ = some (.map (some bm)) := h.blk.cell 1
  have ho' : decide (o < 0) = false := decide_eq_false (by omega)
  have hk' : decide (k < 0) = false := decide_eq_false (by omega)
  have hd' : decide ((O.length : Int) ≤ k) = false := decide_eq_false (by omega)
  clear hc
  go_enter Try.func13, Try.ntmps13
  go_wp2
  go_quiet (fail)
  go_wp2
  go_quiet (fail)
  go_wp2
  go_ret
  first | exact ⟨rfl, (hn1.drewN _).drewN _⟩ | exact ⟨rfl, hn1.drewN _⟩

/-- Not the owner's: the switch comes to its third case. -/
theorem not_owner {O : List Int} {o k : Int} (hc : ownerP O k ≠ o) : (decide (0 ≤ ownerP O k) && (max (ownerP O k) 0 == o)) = false := by
  by_cases h : 0 ≤ ownerP O k
  · rw [show max (ownerP O k) 0 = ownerP O k by omega]
    simp [hc]
  · simp [h]

set_option maxRecDepth 100000 in
set_option maxHeartbeats 3200000 in
theorem lacq_past {w : World} {b bm : Nat} {O : List Int} {N : Int} (h : Tab w b bm O N) (o k : Int) (hk : okI k) (ho : 0 ≤ o) (hk0 : 0 ≤ k) (hk1 : k < O.length) (hc : ownerP O k ≠ o)
    (hd : (heldP O o).any (fun x => decide (k < x)) = true ∨ 0 ≤ ownerP O k) :
    Calls Try.prog 13 #[.pointer (some ⟨b, 0, none⟩), .int .i64 o, .int .i64 k] w fun e w' => e = .returned (.int .i64 (acqP O o k)) ∧ New w w' := by
  have hmf : ∀ (fn : Fn) (first cap : Array Value) (w : World), (Instr.makeFunc fn first cap).run Try.prog w = .ok (.func fn first cap) w := fun _ _ _ _ => rfl
  have hlt := h.blk.lt
  have hn1 : New w (acqW w k) := (New.refl w).alloc _
  have hbox : Blk (acqW w k) w.heap.size 3 #[.int .i64 k] := Blk.new _ _ _
  have h1 := h.new hn1
  have hlk := fun n => (h1.new ((New.refl _).drewN n)).look hk
  have hp : acqP O o k = if (heldP O o).any (fun x => decide (k < x)) then 10 else if 0 ≤ ownerP O k then 9 else 0 := by
    unfold acqP
    rw [if_neg (by omega), if_neg hc]
  rw [hp]
  have c0 : w.cell? ⟨b, 0, none⟩ = some (.int .i64 O.length) := h.blk.cell 0
  have c1 : w.cell? ⟨b, 1, none⟩ = some (.map (some bm)) := h.blk.cell 1
  have ho' : decide (o < 0) = false := decide_eq_false (by omega)
  have hk' : decide (k < 0) = false := decide_eq_false (by omega)
  have hd' : decide ((O.length : Int) ≤ k) = false := decide_eq_false (by omega)
  have hno := not_owner (k := k) hc
  obtain ⟨q, hq⟩ : ∃ q, decide (0 ≤ ownerP O k) = q := ⟨_, rfl⟩
  have hq' : (if 0 ≤ ownerP O k then 9 else 0) = (if q then 9 else 0) := by rw [← hq]; by_cases h3 : 0 ≤ ownerP O k <;> simp [h3]
  rw [hq']
  rw [hq] at hlk hno
  have hq2 : (heldP O o).any (fun x => decide (k < x)) = true ∨ q = true := by rw [← hq, decide_eq_true_iff]; exact hd
  generalize max (ownerP O k) 0 = x at *
  have H1 := Lib.hid h1
  have HQ2 := Lib.hid hq2
  have hOl := h.len
  obtain ⟨cc, hcc⟩ : ∃ cc, cc = (if (heldP O o).any (fun x => decide (k < x)) then 10 else if q then 9 else 0) := ⟨_, rfl⟩
  rw [← hcc]
  have HCC := Lib.hid hcc
  clear hc hp hq hq' hd hq2 h1 hcc
  cases q
  all_goals
    try rw [Bool.false_and] at hno
    try rw [Bool.true_and] at hno
    go_enter Try.func13, Try.ntmps13
    go_wp2
    go_quiet (fail)
    go_wp2
    go_quiet (fail)
    go_wp2_with fail
    refine (lheld_any (H1.out.new ((New.refl _).drewN _)) o).mono ?_
    rintro e w2 ⟨v, rfl, hv, hn2⟩
    have hn12 := (hn1.drewN _).trans hn2
    have hpr := acq1_pred k w.heap.size (hn2.blk (hbox.drewN _))
    have HPR := Lib.hid hpr
    have hhl := heldP_len O o
    have hok : ∀ x ∈ heldP O o, okI x := fun x hx => WalkArith.wf_i64 (by have := heldP_range hx; omega)
    have HOK := Lib.hid hok
    clear hpr hok
    obtain ⟨A, N0, C, rfl⟩ := own_shape hv
    go_wp2_with fail
    refine (icontains_any 30 #[.pointer (some ⟨w.heap.size, 0, none⟩)] _ (enters _ _ _ Try.func30 (by kernel_rfl) rfl) _ _ w2 HPR.out hv.rd HOK.out (by omega)).mono ?_
    have hq2 := HQ2.out
    obtain ⟨r, hr⟩ : ∃ r, (heldP O o).any (fun x => decide (k < x)) = r := ⟨_, rfl⟩
    have HR := Lib.hid hr
    rw [hr] at hq2
    rw [hr]
    clear hr HQ2
    rintro e w3 ⟨rfl, hn3⟩
    have hcc := HCC.out
    rw [HR.out] at hcc
    rcases hq2 with rfl | hq2
    · obtain rfl : cc = 10 := hcc
      go_wp2
      go_ret
      exact ⟨rfl, hn12.trans hn3⟩
    · first
        | (cases hq2; done)
        | (clear hq2
           cases r
           · obtain rfl : cc = 9 := hcc
             go_wp2
             go_ret
             exact ⟨rfl, hn12.trans hn3⟩
           · obtain rfl : cc = 10 := hcc
             go_wp2
             go_ret
             exact ⟨rfl, hn12.trans hn3⟩)

theorem acqO_in {O : List Int} {o k : Int} (h : acqP O o k = 0) : acqO O o k = O.set k.toNat o := by unfold acqO; rw [if_pos h]

/-- The table behind a store of an owner, and a count. -/
theorem Tab.store {w w' : World} {b bm : Nat} {O : List Int} {N : Int} (h : Tab w b bm O N) (hN : N < 10000) {o k : Int} (hok : okI o) (h0 : acqP O o k = 0) {l : List (Int × Value)} (hl : HasMap iKeys w bm l) (hll : (l.length : Int) ≤ N) (hg : ∀ k, okI k → get l k = cellAt O k)
    (hm : HasMap iKeys w' bm (put l k (.int .i64 o))) (hb : Blk w' b 66 #[.int .i64 O.length, .map (some bm), .int .i64 (N + 1)]) : Tab w' b bm (acqO O o k) (N + 1) := by
  have hz := acqP_zero h0
  refine ⟨?_, ⟨_, hm, ?_, fun j hj => ?_⟩, acqO_ows h.ows o k, ?_, ?_, by omega⟩
  · rw [acqO_len]; exact hb
  · have h1 := del_length hl.nd k
    have h2 : (put l k (.int .i64 o)).length = (del l k).length + 1 := by unfold put; simp
    rw [h2]
    split at h1 <;> omega
  · unfold cellAt
    rw [ownerP_acqO]
    by_cases hjk : j = k
    · have e : (if acqP O o k = 0 ∧ j = k then o else ownerP O j) = o := if_pos ⟨h0, hjk⟩
      rw [e, hjk, get_put_same, if_pos hz.1]
    · have e : (if acqP O o k = 0 ∧ j = k then o else ownerP O j) = ownerP O j := if_neg (fun h => hjk h.2)
      rw [e, get_put_other _ _ hjk, hg j hj]
      rfl
  · intro x hx
    rw [acqO_in h0] at hx
    rcases List.mem_or_eq_of_mem_set hx with h1 | h1
    · exact h.ok x h1
    · rw [h1]; exact hok
  · rw [acqO_len]; exact h.len

set_option maxHeartbeats 400000 in
theorem add_any {w : World} {b : Nat} {N : Int} (e2 : w.cell? ⟨b, 2, none⟩ = some (.int .i64 N)) (g2 : w.frozen? ⟨b, 2, none⟩ = false) (h0 : 0 ≤ N) (h1 : N < 10000) :
    Calls Try.prog 32 #[.pointer (some ⟨b, 2, none⟩), .int .i64 1] w fun e w' => e = .returned (.int .i64 (N + 1)) ∧ w' = w.setCell ⟨b, 2, none⟩ (.int .i64 (N + 1)) := by
  have hw : IntKind.i64.wrap (N + 1) = N + 1 := IntWalk.i64_in _ (by omega)
  have hadd := run_call_add (P := Try.prog) Try.func42 (by kernel_rfl) (by kernel_rfl) (by kernel_rfl) .i64 (by kernel_rfl) (y := 1) (s := N + 1) e2 g2 (by simp [Op.intArith, hw])
  clear hw
  go_enter Try.func32, Try.ntmps32
  go_wp2
  go_ret
  exact ⟨rfl, rfl⟩

set_option maxRecDepth 100000 in
set_option maxHeartbeats 3200000 in
theorem lacq_ok {w : World} {b bm : Nat} {O : List Int} {N : Int} (h : Tab w b bm O N) (hN : N < 10000) (o k : Int) (hoo : okI o) (hk : okI k) (h0 : acqP O o k = 0) :
    Calls Try.prog 13 #[.pointer (some ⟨b, 0, none⟩), .int .i64 o, .int .i64 k] w fun e w' => e = .returned (.int .i64 0) ∧ Tab w' b bm (acqO O o k) (N + 1) ∧ TFr b bm w w' := by
  have hmf : ∀ (fn : Fn) (first cap : Array Value) (w : World), (Instr.makeFunc fn first cap).run Try.prog w = .ok (.func fn first cap) w := fun _ _ _ _ => rfl
  have hz := acqP_zero h0
  have hlt := h.blk.lt
  have hltm := h.ltm
  have hn1 : New w (acqW w k) := (New.refl w).alloc _
  have hbox : Blk (acqW w k) w.heap.size 3 #[.int .i64 k] := Blk.new _ _ _
  have h1 := h.new hn1
  have hlk := fun n => (h1.new ((New.refl _).drewN n)).look hk
  rw [show max (ownerP O k) 0 = 0 by omega, decide_eq_false (by omega : ¬ 0 ≤ ownerP O k)] at hlk
  have hany : (heldP O o).any (fun x => decide (k < x)) = false := List.any_eq_false.2 fun x hx => by have := hz.2.2.2.2 x hx; simp; omega
  have HANY := Lib.hid hany
  have H0 := Lib.hid h0
  have c0 : w.cell? ⟨b, 0, none⟩ = some (.int .i64 O.length) := h.blk.cell 0
  have c1 : w.cell? ⟨b, 1, none⟩ = some (.map (some bm)) := h.blk.cell 1
  have ho' : decide (o < 0) = false := decide_eq_false (by omega)
  have hk' : decide (k < 0) = false := decide_eq_false (by omega)
  have hd' : decide ((O.length : Int) ≤ k) = false := decide_eq_false (by omega)
  have H1 := Lib.hid h1
  have hOl := h.len
  have hN0 := h.lo
  clear h1 hany h0 hz
  go_enter Try.func13, Try.ntmps13
  go_wp2
  go_quiet (fail)
  go_wp2
  go_quiet (fail)
  go_wp2_with fail
  refine (lheld_any (H1.out.new ((New.refl _).drewN _)) o).mono ?_
  rintro e w2 ⟨v, rfl, hv, hn2⟩
  have hn12 := (hn1.drewN _).trans hn2
  have hbox2 := hn2.blk (hbox.drewN _)
  have hpr := acq1_pred k w.heap.size hbox2
  have HPR := Lib.hid hpr
  have hhl := heldP_len O o
  have hok : ∀ x ∈ heldP O o, okI x := fun x hx => WalkArith.wf_i64 (by have := heldP_range hx; omega)
  have HOK := Lib.hid hok
  clear hpr hok
  obtain ⟨A, N0, C, rfl⟩ := own_shape hv
  go_wp2_with fail
  refine (icontains_any 30 #[.pointer (some ⟨w.heap.size, 0, none⟩)] _ (enters _ _ _ Try.func30 (by kernel_rfl) rfl) _ _ w2 HPR.out hv.rd HOK.out (by omega)).mono ?_
  rw [HANY.out]
  rintro e w3 ⟨rfl, hn3⟩
  have hn13 := hn12.trans hn3
  have hs13 := hn13.size
  have h3 := h.new hn13
  obtain ⟨l, hm, hll, hg⟩ := h3.map
  have d1 : w3.drew.cell? ⟨b, 1, none⟩ = some (.map (some bm)) := h3.blk.cell 1
  have d2 : w3.drew.cell? ⟨w.heap.size, 0, none⟩ = some (.int .i64 k) := (hn3.blk hbox2).cell 0
  have HG := Lib.hid hg
  clear hg hv hbox2 hbox
  go_wp2_with fail
  refine wp_tail 6 (by kernel_rfl) (by kernel_rfl) ?_
  simp only [List.take_succ_cons, List.take_zero, List.drop_succ_cons, List.drop_zero]
  repeat still_step
  refine wpStill_nil ?_
  go_wp2_with (at_mapUpdate; refine wpList_put (E := iKeys) rfl _ _ _ 59 3 rfl Try.underlying59 hm.drew (by unfold maxLen; omega) k hk (.int .i64 o) rfl rfl rfl ?_; intro w4 hm4 ho4)
  have hb4 := ho4.blk (h3.blk.drew) h.ne
  have e2 : w4.cell? ⟨b, 2, none⟩ = some (.int .i64 N) := hb4.cell 2
  have g2 : w4.frozen? ⟨b, 2, none⟩ = false := hb4.frozen 2
  refine (add_any e2 g2 hN0 hN).mono ?_
  rintro e w5 ⟨rfl, hw5⟩
  have ho5 : One b w4 w5 := by rw [hw5]; exact (One.refl _ _).set _ _
  have hb5 : Blk w5 b 66 #[.int .i64 O.length, .map (some bm), .int .i64 (N + 1)] := by rw [hw5]; exact hb4.set_ 2 _
  have hm5 := hm4.fr ho5 (fun e => h.ne e.symm)
  clear hw5
  go_wp2
  go_ret
  refine ⟨rfl, h3.store hN hoo H0.out hm hll HG.out hm5 hb5, ?_⟩
  have hf1 : TFr b bm w w3.drew := (New.to hn13).drew
  exact (hf1.trans' ho4 fun i hi e => Or.inr e).trans' ho5 fun i hi e => Or.inl e

end Go.Proofs.Ytflalhciohdahaa
