/- The library's sort at uint32: the choice of a pivot. -/
import Derived.Test.YtjnaihhkbbeaoaaSort1
import Derived.Sort.LotD1
import Derived.Sort.LotD4
namespace Go.Proofs.Ytjnaihhkbbeaoaa
open Go.RowKit Go.Sort

set_option maxRecDepth 100000 in
set_option maxHeartbeats 1600000 in
theorem order2_any {te : TypeId} {base g c s : Nat} {w : World} {d : Array Int} (h : SRow te base w g c d) (a b sw : Nat) (hs : Blk w s 3 #[.int .i64 sw]) (ha : a < d.size) (hb : b < d.size) (hsw : sw ≤ 1000) :
    Calls Try.prog 84 #[.slice (some ⟨g, 0, none⟩) d.size c, .int .i64 a, .int .i64 b, .pointer (some ⟨s, 0, none⟩)] w fun e w' =>
      e = .returned (.tuple #[.int .i64 (order2 ltInt d a b sw).1, .int .i64 (order2 ltInt d a b sw).2.1]) ∧ Blk w' s 3 #[.int .i64 (order2 ltInt d a b sw).2.2] ∧ One s w w' := by
  obtain ⟨x, hx⟩ : ∃ x, d[a]! = x := ⟨_, rfl⟩
  obtain ⟨y, hy⟩ : ∃ y, d[b]! = y := ⟨_, rfl⟩
  have hcx := fun n => (h.drewN n).cell (t := a) ha
  have hcy := fun n => (h.drewN n).cell (t := b) hb
  have hcs := fun n => (hs.drewN n).cell 0
  have hfs := fun n => (hs.drewN n).frozen 0
  have hcs' : ∀ n, (w.drewN n).cell? ⟨s, 0, none⟩ = some (.int .i64 sw) := hcs
  rw [hx] at hcx
  rw [hy] at hcy
  clear hcs
  obtain ⟨q, hq⟩ : ∃ q, ltInt y x = q := ⟨_, rfl⟩
  have hr : order2 ltInt d a b sw = if q then (b, a, sw + 1) else (a, b, sw) := by unfold order2; rw [hx, hy, hq]
  rw [hr]
  have hless : ∀ W, Calls Try.prog 58 #[.int .u32 y, .int .u32 x] W fun e w' => e = .returned (.bool q) ∧ w' = W := fun W => by rw [← hq]; exact less_any y x _
  have HLS := Lib.hid hless
  clear hless hq hr hx hy
  cases q
  · go_enter Try.func84, Try.ntmps84
    go_wp2_with fail
    go_quiet ((go_at_call 58; with_reducible (first | exact quiet1 HLS.out | exact quiet2 HLS.out | exact quiet3 HLS.out)))
    go_wp2
    go_ret2
    exact ⟨rfl, hs.drewN _, (One.refl _ _).drewN _⟩
  · go_enter Try.func84, Try.ntmps84
    go_wp2_with fail
    go_quiet ((go_at_call 58; with_reducible (first | exact quiet1 HLS.out | exact quiet2 HLS.out | exact quiet3 HLS.out)))
    go_wp2
    go_ret2
    refine ⟨rfl, ?_, ?_⟩
    · show Blk _ s 3 #[.int .i64 ((sw + 1 : Nat) : Int)]
      exact (hs.drewN _).set_ 0 _
    · exact One.set ((One.refl s w).drewN _) 0 _

theorem Blk.i {w : World} {s : Nat} {v : Int} (h : Blk w s 3 #[.int .i64 v]) : w.cell? ⟨s, 0, none⟩ = some (.int .i64 v) := h.cell 0

set_option maxRecDepth 100000 in
set_option maxHeartbeats 1600000 in
theorem median_any {te : TypeId} {base g c s : Nat} {w : World} {d : Array Int} (h : SRow te base w g c d) (hgs : g ≠ s) (i j k sw : Nat) (hs : Blk w s 3 #[.int .i64 sw]) (hi : i < d.size) (hj : j < d.size) (hk : k < d.size) (hsw : sw ≤ 100) :
    Calls Try.prog 75 #[.slice (some ⟨g, 0, none⟩) d.size c, .int .i64 i, .int .i64 j, .int .i64 k, .pointer (some ⟨s, 0, none⟩)] w fun e w' =>
      e = .returned (.int .i64 (median ltInt d i j k sw).1) ∧ Blk w' s 3 #[.int .i64 (median ltInt d i j k sw).2] ∧ One s w w' := by
  obtain ⟨p1, hp1⟩ : ∃ p, p = order2 ltInt d i j sw := ⟨_, rfl⟩
  obtain ⟨p2, hp2⟩ : ∃ p, p = order2 ltInt d p1.2.1 k p1.2.2 := ⟨_, rfl⟩
  obtain ⟨p3, hp3⟩ : ∃ p, p = order2 ltInt d p1.1 p2.1 p2.2.2 := ⟨_, rfl⟩
  have hr : median ltInt d i j k sw = (p3.2.1, p3.2.2) := by subst hp3 hp2 hp1; rfl
  rw [hr]
  have c1 := order2_count ltInt d i j sw
  have c2 := order2_count ltInt d p1.2.1 k p1.2.2
  rw [← hp1] at c1
  rw [← hp2] at c2
  have m1 : p1.1 < d.size ∧ p1.2.1 < d.size := by
    have := order2_mem ltInt d i j sw
    rw [← hp1] at this
    omega
  have m2 : p2.1 < d.size ∧ p2.2.1 < d.size := by
    have := order2_mem ltInt d p1.2.1 k p1.2.2
    rw [← hp2] at this
    omega
  have o1 := order2_any h i j sw hs hi hj (by omega)
  rw [← hp1] at o1
  have O1 := Lib.hid o1
  have o2 := fun w' (h' : SRow te base w' g c d) (hs' : Blk w' s 3 #[.int .i64 p1.2.2]) => order2_any h' p1.2.1 k p1.2.2 hs' m1.2 hk (by omega)
  rw [← hp2] at o2
  have O2 := Lib.hid o2
  have o3 := fun w' (h' : SRow te base w' g c d) (hs' : Blk w' s 3 #[.int .i64 p2.2.2]) => order2_any h' p1.1 p2.1 p2.2.2 hs' m1.1 m2.1 (by omega)
  rw [← hp3] at o3
  have O3 := Lib.hid o3
  clear o1 o2 o3 hp1 hp2 hp3 hr
  go_enter Try.func75, Try.ntmps75
  go_wp2_with fail
  refine O1.out.mono ?_
  rintro e w1 ⟨rfl, hs1, ho1⟩
  have h1 := h.fr ho1 (fun e => hgs e)
  go_wp2_with fail
  refine (O2.out _ h1 hs1).mono ?_
  rintro e w2 ⟨rfl, hs2, ho2⟩
  have h2 := h1.fr ho2 (fun e => hgs e)
  go_wp2_with fail
  refine (O3.out _ h2 hs2).mono ?_
  rintro e w3 ⟨rfl, hs3, ho3⟩
  go_wp2
  go_ret
  exact ⟨rfl, hs3, (ho1.trans ho2).trans ho3⟩

set_option maxRecDepth 100000 in
set_option maxHeartbeats 1600000 in
theorem medianadj_any {te : TypeId} {base g c s : Nat} {w : World} {d : Array Int} (h : SRow te base w g c d) (hgs : g ≠ s) (i sw : Nat) (hs : Blk w s 3 #[.int .i64 sw]) (h1 : 1 ≤ i) (hi : i + 1 < d.size) (hn : d.size ≤ 1000000) (hsw : sw ≤ 100) :
    Calls Try.prog 74 #[.slice (some ⟨g, 0, none⟩) d.size c, .int .i64 i, .pointer (some ⟨s, 0, none⟩)] w fun e w' =>
      e = .returned (.int .i64 (medianAdjacent ltInt d i sw).1) ∧ Blk w' s 3 #[.int .i64 (medianAdjacent ltInt d i sw).2] ∧ One s w w' := by
  have hc := median_any h hgs (i - 1) i (i + 1) sw hs (by omega) (by omega) (by omega) hsw
  rw [show (((i - 1 : Nat)) : Int) = (i : Int) - 1 by omega, show (((i + 1 : Nat)) : Int) = (i : Int) + 1 by omega] at hc
  have HC := Lib.hid hc
  have hr : medianAdjacent ltInt d i sw = median ltInt d (i - 1) i (i + 1) sw := rfl
  rw [hr]
  clear hc hr
  go_enter Try.func74, Try.ntmps74
  go_wp2_with fail
  refine HC.out.mono ?_
  rintro e w1 ⟨rfl, hs1, ho1⟩
  go_wp2
  go_ret
  exact ⟨rfl, hs1, ho1⟩

set_option maxRecDepth 100000 in
set_option maxHeartbeats 3200000 in
theorem choose_any {te : TypeId} {base g c : Nat} {w : World} {d : Array Int} (h : SRow te base w g c d) (a b : Nat) (hab : a < b) (hb : b ≤ d.size) (hn : d.size ≤ 1000000) :
    Calls Try.prog 55 #[.slice (some ⟨g, 0, none⟩) d.size c, .int .i64 a, .int .i64 b] w fun e w' =>
      e = .returned (.tuple #[.int .i64 (choosePivot ltInt d a b).1, .int .i64 (hintCode (choosePivot ltInt d a b).2)]) ∧ New w w' := by
  rw [choosePivot_eq]
  obtain ⟨l, hl⟩ : ∃ l, l = b - a := ⟨_, rfl⟩
  have hlI : (b : Int) - (a : Int) = l := by omega
  obtain ⟨q, hq⟩ : ∃ q, q = l / 4 := ⟨_, rfl⟩
  have hqI : (l : Int) / 4 = q := by omega
  have hq4 : 4 * q ≤ l := by omega
  have hlb : a + l ≤ b := by omega
  have hlg : 0 < l := by omega
  have hglt := h.lt
  have hbox : Blk (w.alloc (.cells #[.int .i64 0] 3)) w.heap.size 3 #[.int .i64 ((0 : Nat) : Int)] := Blk.new _ _ _
  have h0 := h.new ((New.refl w).alloc (.cells #[.int .i64 0] 3))
  have hnw : New w (w.alloc (.cells #[.int .i64 0] 3)) := (New.refl w).alloc _
  have hraw : rawPivot ltInt d a b = if l ≥ 8 then (if l ≥ 50 then median ltInt d (medianAdjacent ltInt d (a + q * 1) 0).1 (medianAdjacent ltInt d (a + q * 2) (medianAdjacent ltInt d (a + q * 1) 0).2).1 (medianAdjacent ltInt d (a + q * 3) (medianAdjacent ltInt d (a + q * 2) (medianAdjacent ltInt d (a + q * 1) 0).2).2).1 (medianAdjacent ltInt d (a + q * 3) (medianAdjacent ltInt d (a + q * 2) (medianAdjacent ltInt d (a + q * 1) 0).2).2).2 else median ltInt d (a + q * 1) (a + q * 2) (a + q * 3) 0) else (a + q * 2, 0) := by
    unfold rawPivot
    rw [← hl, ← hq]
  have e1 : ((a + q * 1 : Nat) : Int) = (a : Int) + q := by omega
  have e2 : ((a + q * 2 : Nat) : Int) = (a : Int) + q * 2 := by omega
  have e3 : ((a + q * 3 : Nat) : Int) = (a : Int) + q * 3 := by omega
  have hgs : g ≠ w.heap.size := by omega
  by_cases h8 : l < 8
  · rw [hraw, if_neg (by omega)]
    have hd8 : decide (8 ≤ (l : Int)) = false := decide_eq_false (by omega)
    show Calls _ _ _ _ fun e w' => e = .returned (.tuple #[.int .i64 ((a + q * 2 : Nat) : Int), .int .i64 1]) ∧ _
    rw [e2]
    have hc0 : (w.alloc (.cells #[.int .i64 0] 3)).cell? ⟨w.heap.size, 0, none⟩ = some (.int .i64 0) := hbox.cell 0
    clear hraw e1 e2 e3 hl hq
    go_enter Try.func55, Try.ntmps55
    go_wp2
    go_ret2
    exact ⟨rfl, hnw⟩
  · have hd8 : decide (8 ≤ (l : Int)) = true := decide_eq_true (by omega)
    obtain ⟨raw, hrw⟩ : ∃ raw, raw = rawPivot ltInt d a b := ⟨_, rfl⟩
    rw [← hrw]
    rw [← hrw, if_pos (by omega)] at hraw
    by_cases h50 : l < 50
    · rw [if_neg (by omega)] at hraw
      have hd50 : decide (50 ≤ (l : Int)) = false := decide_eq_false (by omega)
      have hm := median_any h0 hgs (a + q * 1) (a + q * 2) (a + q * 3) 0 hbox (by omega) (by omega) (by omega) (by omega)
      rw [← hraw, e1, e2, e3] at hm
      have HM := Lib.hid hm
      obtain ⟨r1, r2⟩ := raw
      clear hm hraw hrw e1 e2 e3 hl hq
      dsimp only at HM ⊢
      have h012 : (r2 = 0 ∨ r2 = 12) ∨ (r2 ≠ 0 ∧ r2 ≠ 12) := by omega
      rcases h012 with (rfl | rfl) | ⟨hz1, hz2⟩
      · go_enter Try.func55, Try.ntmps55
        go_wp2_with fail
        refine HM.out.mono ?_
        rintro e w2 ⟨rfl, hs2, ho2⟩
        have hc2 : w2.cell? ⟨w.heap.size, 0, none⟩ = some (.int .i64 0) := hs2.cell 0
        go_wp2
        go_ret2
        exact ⟨rfl, New.one hnw ho2 (Nat.le_refl _)⟩
      · go_enter Try.func55, Try.ntmps55
        go_wp2_with fail
        refine HM.out.mono ?_
        rintro e w2 ⟨rfl, hs2, ho2⟩
        have hc2 : w2.cell? ⟨w.heap.size, 0, none⟩ = some (.int .i64 12) := hs2.cell 0
        go_wp2
        go_ret2
        exact ⟨rfl, New.one hnw ho2 (Nat.le_refl _)⟩
      · have hb1 : ((r2 : Int) == 0) = false := by simp; omega
        have hb2 : ((r2 : Int) == 12) = false := by simp; omega
        have hho : hintOf r2 = .unknown := by unfold hintOf; rw [if_neg hz1, if_neg hz2]
        rw [hho]
        clear hho hz1 hz2
        go_enter Try.func55, Try.ntmps55
        go_wp2_with fail
        refine HM.out.mono ?_
        rintro e w2 ⟨rfl, hs2, ho2⟩
        have hc2 : w2.cell? ⟨w.heap.size, 0, none⟩ = some (.int .i64 r2) := hs2.cell 0
        go_wp2
        go_ret2
        exact ⟨rfl, New.one hnw ho2 (Nat.le_refl _)⟩
    · rw [if_pos (by omega)] at hraw
      have hd50 : decide (50 ≤ (l : Int)) = true := decide_eq_true (by omega)
      obtain ⟨m1, hm1⟩ : ∃ m, m = medianAdjacent ltInt d (a + q * 1) 0 := ⟨_, rfl⟩
      obtain ⟨m2, hm2⟩ : ∃ m, m = medianAdjacent ltInt d (a + q * 2) m1.2 := ⟨_, rfl⟩
      obtain ⟨m3, hm3⟩ : ∃ m, m = medianAdjacent ltInt d (a + q * 3) m2.2 := ⟨_, rfl⟩
      have hraw2 : raw = median ltInt d m1.1 m2.1 m3.1 m3.2 := by rw [hraw]; subst hm3 hm2 hm1; rfl
      have k1 := medianAdjacent_count ltInt d (a + q * 1) 0
      have k2 := medianAdjacent_count ltInt d (a + q * 2) m1.2
      have k3 := medianAdjacent_count ltInt d (a + q * 3) m2.2
      have l1 := medianAdjacent_mem ltInt d (a + q * 1) 0
      have l2 := medianAdjacent_mem ltInt d (a + q * 2) m1.2
      have l3 := medianAdjacent_mem ltInt d (a + q * 3) m2.2
      rw [← hm1] at k1 l1
      rw [← hm2] at k2 l2
      rw [← hm3] at k3 l3
      have c1 := medianadj_any h0 hgs (a + q * 1) 0 hbox (by omega) (by omega) (by omega) (by omega)
      have c2 := fun w' (h' : SRow te base w' g c d) (hs' : Blk w' w.heap.size 3 #[.int .i64 m1.2]) => medianadj_any h' hgs (a + q * 2) m1.2 hs' (by omega) (by omega) (by omega) (by omega)
      have c3 := fun w' (h' : SRow te base w' g c d) (hs' : Blk w' w.heap.size 3 #[.int .i64 m2.2]) => medianadj_any h' hgs (a + q * 3) m2.2 hs' (by omega) (by omega) (by omega) (by omega)
      have c4 := fun w' (h' : SRow te base w' g c d) (hs' : Blk w' w.heap.size 3 #[.int .i64 m3.2]) => median_any h' hgs m1.1 m2.1 m3.1 m3.2 hs' (by omega) (by omega) (by omega) (by omega)
      rw [← hm1, e1] at c1
      rw [← hm2, e2] at c2
      rw [← hm3, e3] at c3
      rw [← hraw2] at c4
      have C1 := Lib.hid c1
      have C2 := Lib.hid c2
      have C3 := Lib.hid c3
      have C4 := Lib.hid c4
      obtain ⟨r1, r2⟩ := raw
      clear c1 c2 c3 c4 hraw hraw2 hrw hm1 hm2 hm3 e1 e2 e3 hl hq k1 k2 k3 l1 l2 l3
      dsimp only at C4 ⊢
      obtain ⟨b1, hb1⟩ : ∃ b1, ((r2 : Int) == 0) = b1 := ⟨_, rfl⟩
      obtain ⟨b2, hb2⟩ : ∃ b2, ((r2 : Int) == 12) = b2 := ⟨_, rfl⟩
      have hh : hintCode (hintOf r2) = if b1 then 1 else if b2 then 2 else 0 := by
        rw [← hb1, ← hb2]
        unfold hintOf
        by_cases h1 : r2 = 0
        · subst h1; rfl
        · by_cases h2 : r2 = 12
          · subst h2; rfl
          · rw [if_neg h1, if_neg h2, if_neg (by simp; omega), if_neg (by simp; omega)]; rfl
      rw [hh]
      cases b1 <;> cases b2
      all_goals simp only [if_true, if_false, Bool.false_eq_true]
      all_goals clear hh
      all_goals
        go_enter Try.func55, Try.ntmps55
        go_wp2_with fail
        refine C1.out.mono ?_
        rintro e w2 ⟨rfl, hs2, ho2⟩
        have h2 := h0.fr ho2 (fun e => hgs e)
        go_wp2_with fail
        refine (C2.out _ h2 hs2).mono ?_
        rintro e w3 ⟨rfl, hs3, ho3⟩
        have h3 := h2.fr ho3 (fun e => hgs e)
        go_wp2_with fail
        refine (C3.out _ h3 hs3).mono ?_
        rintro e w4 ⟨rfl, hs4, ho4⟩
        have h4 := h3.fr ho4 (fun e => hgs e)
        go_wp2_with fail
        refine (C4.out _ h4 hs4).mono ?_
        rintro e w5 ⟨rfl, hs5, ho5⟩
        have hc5 := hs5.i
        go_wp2
        go_ret2
        exact ⟨rfl, New.one hnw (((ho2.trans ho3).trans ho4).trans ho5) (Nat.le_refl _)⟩

end Go.Proofs.Ytjnaihhkbbeaoaa
