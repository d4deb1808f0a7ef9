/- A part of the proof: Sort1, Sort4, Sort2. -/
import Derived.Test.YtliimglbbiebiaaGreatDoorRows
import Derived.Test.YtliimglbbiebiaaGreatDoorGTopFullAE
import Derived.Test.YtliimglbbiebiaaGreatDoorGTopFullAA
import Derived.WalkKit
import Derived.WalkSpells
import Derived.WalkLawsBesides
import Derived.Deep.QuietTactic
import Derived.BigQuiet
import Derived.BigGuard
import Derived.RegionTactic
import Derived.Lib.Hide
import Derived.Sort.LotD1
import Derived.Sort.LotD4

section
/- The library's sort at uint32: Less, the insertion sort. -/
namespace Go.Proofs.YtliimglbbiebiaaGreatDoor
open Go.RowKit Go.Sort

set_option maxHeartbeats 400000 in
theorem isnan_any (x : Int) (w : World) : Calls Tryz.prog 223 #[.int .u32 x] w fun e w' => e = .returned (.bool false) ∧ w' = w := by
  go_enter Tryz.func223, Tryz.ntmps223
  go_wp2
  go_ret
  exact ⟨by simp, rfl⟩

set_option maxHeartbeats 400000 in
theorem less_any (x y : Int) (w : World) : Calls Tryz.prog 168 #[.int .u32 x, .int .u32 y] w fun e w' => e = .returned (.bool (ltInt x y)) ∧ w' = w := by
  go_enter Tryz.func168, Tryz.ntmps168
  go_wp2_with (go_at_call 223; refine (isnan_any _ _).mono ?_; rintro e w' ⟨rfl, rfl⟩)
  go_ret
  exact ⟨rfl, rfl⟩

/-- A call that leaves the world alone, in a region behind one that has drawn. -/
theorem quiet2 {P : Program} {f : FuncId} {args : Array Value} {w : World} {a n : Nat} {v : Value} (h : ∀ W, Calls P f args W fun e w' => e = .returned v ∧ w' = W) :
    Calls P f args (w.drewN (a + n)) fun e w'' => e = .returned v ∧ ∃ m, w'' = w.drewN (a + m) :=
  (h _).mono fun _ _ ⟨he, hw⟩ => ⟨he, n, hw⟩

theorem quiet1 {P : Program} {f : FuncId} {args : Array Value} {w : World} {n : Nat} {v : Value} (h : ∀ W, Calls P f args W fun e w' => e = .returned v ∧ w' = W) :
    Calls P f args (w.drewN n) fun e w'' => e = .returned v ∧ ∃ m, w'' = w.drewN m :=
  (h _).mono fun _ _ ⟨he, hw⟩ => ⟨he, n, hw⟩
theorem quiet3 {P : Program} {f : FuncId} {args : Array Value} {w : World} {a n : Nat} {v : Value} (h : ∀ W, Calls P f args W fun e w' => e = .returned v ∧ w' = W) :
    Calls P f args (w.drewN (a + n)) fun e w'' => e = .returned v ∧ ∃ m, w'' = (w.drewN a).drewN m :=
  (h _).mono fun _ _ ⟨he, hw⟩ => ⟨he, n, by rw [hw, World.drewN_drewN]⟩

set_option maxHeartbeats 3200000 in
theorem insertion_any {te : TypeId} {base g c : Nat} {w : World} {d : Array Int} (h : SRow te base w g c d) (a b : Nat) (hab : a ≤ b) (hb : b ≤ d.size) (hn : d.size ≤ 1000000) :
    Calls Tryz.prog 162 #[.slice (some ⟨g, 0, none⟩) d.size c, .int .i64 a, .int .i64 b] w fun e w' => e = .returned (.tuple #[]) ∧ SRow te base w' g c (insertionSort ltInt d a b) ∧ (insertionSort ltInt d a b).size = d.size ∧ One g w w' := by
  go_enter Tryz.func162, Tryz.ntmps162
  go_wp2
  go_loopw [6] (fun vi wr => ∃ (i : Nat) (dk : Array Int), vi = .int .i64 i ∧ a < i ∧ i ≤ b + 1 ∧ dk.size = d.size ∧ SRow te base wr g c dk ∧ One g w wr ∧ Hid (insOuter ltInt a b i dk = insertionSort ltInt d a b)) (fun vi _ => b + 1 - (intOf vi).toNat)
  case atStart => exact ⟨a + 1, d, by go_num, by omega, by omega, rfl, h, One.refl _ _, rfl⟩
  case round =>
    obtain ⟨i, dk, rfl, hai, hib, hsk, hR, hO, HE⟩ := hrel
    clear h
    by_cases hlt : i < b
    · go_wp2
      obtain ⟨wo, rfl⟩ : ∃ wo : World, wo = wr := ⟨_, rfl⟩
      go_loopw [7] (fun vj wr => ∃ (j : Nat) (dj : Array Int), vj = .int .i64 j ∧ a ≤ j ∧ j ≤ i ∧ dj.size = d.size ∧ SRow te base wr g c dj ∧ One g w wr ∧ Hid (insInner ltInt a j dj = insInner ltInt a i dk)) (fun vj _ => (intOf vj).toNat)
      case atStart => exact ⟨i, dk, rfl, by omega, Nat.le_refl _, hsk, hR, hO, rfl⟩
      case round =>
        obtain ⟨j, dj, rfl, haj, hji, hsj, hRj, hOj, HI⟩ := hrel
        clear hR hO
        have HE' := Lib.hid (insOuter_go' (lt := ltInt) a b i dk hlt)
        by_cases hja : a < j
        · have hjd : j < dj.size := by omega
          have hcw := fun n => (hRj.drewN n).cell (t := j) hjd
          have hcv := fun n => (hRj.drewN n).cell (t := j - 1) (by omega)
          have hfw := fun n => (hRj.drewN n).frozen j
          have hfv := fun n => (hRj.drewN n).frozen (j - 1)
          have hj1 : IntKind.i64.wrap ((j : Int) - 1) = (j : Int) - 1 := IntWalk.i64_in _ (by omega)
          have hj2 : ((j : Int) - 1).toNat = j - 1 := by omega
          have hj3 : 0 ≤ (j : Int) - 1 := by omega
          have hdj : decide (a < j) = true := decide_eq_true hja
          have hdi : decide ((a : Int) < j) = true := decide_eq_true (by omega)
          have hsw := fun n => hRj.two n j (j - 1)
          have hone := fun n => One.two hOj n j (j - 1) (.int .u32 dj[j - 1]!) (.int .u32 dj[j]!)
          have HSW := Lib.hid hsw
          have HONE := Lib.hid hone
          have hout := fun (h : ltInt dj[j]! dj[j - 1]! = false) => insInner_stop' (lt := ltInt) a j dj (.inr h)
          have hgo := fun (h : ltInt dj[j]! dj[j - 1]! = true) => insInner_go' (lt := ltInt) a j dj hja h
          have HOUT := Lib.hid hout
          have HGO := Lib.hid hgo
          clear hsw hout hgo hone
          obtain ⟨x, hx⟩ : ∃ x, dj[j]! = x := ⟨_, rfl⟩
          obtain ⟨y, hy⟩ : ∃ y, dj[j - 1]! = y := ⟨_, rfl⟩
          rw [hx] at hcw HSW HOUT HGO HONE
          rw [hy] at hcv HSW HOUT HGO HONE
          clear hx hy
          obtain ⟨q, hq⟩ : ∃ q, ltInt x y = q := ⟨_, rfl⟩
          rw [hq] at HOUT HGO
          have hless : ∀ n, Calls Tryz.prog 168 #[.int .u32 x, .int .u32 y] (wr.drewN n) fun e w' => e = .returned (.bool q) ∧ w' = wr.drewN n := fun n => by rw [← hq]; exact less_any x y _
          have HLS := Lib.hid hless
          clear hless hq
          cases q
          · go_wp2_with fail
            go_quiet (first | (go_at_call 168; refine Calls.quiet_of_same (HLS.out _)))
            go_wp2
            go_roundw
            case rel =>
              refine ⟨i + 1, dj, by go_num, by omega, by omega, hsj, hRj.drewN _, hOj.drewN _, ?_⟩
              show insOuter ltInt a b (i + 1) dj = _
              rw [← HE.out, HE'.out, ← HI.out, HOUT.out trivial]
            case measure => simp [intOf]; omega
          · go_wp2_with fail
            go_quiet (first | (go_at_call 168; refine Calls.quiet_of_same (HLS.out _)))
            go_wp2
            go_region
            all_goals go_wp2
            go_roundw
            case rel =>
              refine ⟨j - 1, swp dj j (j - 1), by congr 1; omega, by omega, by omega, by rw [swp_size]; exact hsj, ?_, HONE.out _, ?_⟩
              · exact HSW.out _
              · show insInner ltInt a (j - 1) (swp dj j (j - 1)) = _
                rw [← HI.out, HGO.out trivial]
            case measure => simp [intOf]; omega
        · have hdj : decide (a < j) = false := decide_eq_false hja
          have hdi : decide ((a : Int) < j) = false := decide_eq_false (by omega)
          have hout := insInner_stop' (lt := ltInt) a j dj (.inl (by omega))
          have HOUT := Lib.hid hout
          clear hout
          go_wp2_with fail
          go_quiet (fail)
          go_wp2
          go_roundw
          case rel =>
            refine ⟨i + 1, dj, by go_num, by omega, by omega, hsj, hRj.drewN _, hOj.drewN _, ?_⟩
            show insOuter ltInt a b (i + 1) dj = _
            rw [← HE.out, HE'.out, ← HI.out, HOUT.out]
          case measure => simp [intOf]; omega
    · have hE := HE.out
      rw [insOuter_stop' _ _ _ _ hlt] at hE
      have HE2 := Lib.hid hE
      clear hE
      go_wp2
      go_end0
      exact ⟨rfl, by rw [← HE2.out]; exact hR, by rw [← HE2.out]; exact hsk, hO⟩

end Go.Proofs.YtliimglbbiebiaaGreatDoor
end

section
/- The library's sort at uint32: the choice of a pivot. -/
namespace Go.Proofs.YtliimglbbiebiaaGreatDoor
open Go.RowKit Go.Sort

set_option maxRecDepth 100000 in
set_option maxHeartbeats 1600000 in
theorem order2_any {te : TypeId} {base g c s : Nat} {w : World} {d : Array Int} (h : SRow te base w g c d) (a b sw : Nat) (hs : Blk w s 3 #[.int .i64 sw]) (ha : a < d.size) (hb : b < d.size) (hsw : sw ≤ 1000) :
    Calls Tryz.prog 289 #[.slice (some ⟨g, 0, none⟩) d.size c, .int .i64 a, .int .i64 b, .pointer (some ⟨s, 0, none⟩)] w fun e w' =>
      e = .returned (.tuple #[.int .i64 (order2 ltInt d a b sw).1, .int .i64 (order2 ltInt d a b sw).2.1]) ∧ Blk w' s 3 #[.int .i64 (order2 ltInt d a b sw).2.2] ∧ One s w w' := by
  obtain ⟨x, hx⟩ : ∃ x, d[a]! = x := ⟨_, rfl⟩
  obtain ⟨y, hy⟩ : ∃ y, d[b]! = y := ⟨_, rfl⟩
  have hcx := fun n => (h.drewN n).cell (t := a) ha
  have hcy := fun n => (h.drewN n).cell (t := b) hb
  have hcs := fun n => (hs.drewN n).cell 0
  have hfs := fun n => (hs.drewN n).frozen 0
  have hcs' : ∀ n, (w.drewN n).cell? ⟨s, 0, none⟩ = some (.int .i64 sw) := hcs
  rw [hx] at hcx
  rw [hy] at hcy
  clear hcs
  obtain ⟨q, hq⟩ : ∃ q, ltInt y x = q := ⟨_, rfl⟩
  have hr : order2 ltInt d a b sw = if q then (b, a, sw + 1) else (a, b, sw) := by unfold order2; rw [hx, hy, hq]
  rw [hr]
  have hless : ∀ W, Calls Tryz.prog 168 #[.int .u32 y, .int .u32 x] W fun e w' => e = .returned (.bool q) ∧ w' = W := fun W => by rw [← hq]; exact less_any y x _
  have HLS := Lib.hid hless
  clear hless hq hr hx hy
  cases q
  · go_enter Tryz.func289, Tryz.ntmps289
    go_wp2_with fail
    go_quiet ((go_at_call 168; with_reducible (first | exact quiet1 HLS.out | exact quiet2 HLS.out | exact quiet3 HLS.out)))
    go_wp2
    go_ret2
    exact ⟨rfl, hs.drewN _, (One.refl _ _).drewN _⟩
  · go_enter Tryz.func289, Tryz.ntmps289
    go_wp2_with fail
    go_quiet ((go_at_call 168; with_reducible (first | exact quiet1 HLS.out | exact quiet2 HLS.out | exact quiet3 HLS.out)))
    go_wp2
    go_ret2
    refine ⟨rfl, ?_, ?_⟩
    · show Blk _ s 3 #[.int .i64 ((sw + 1 : Nat) : Int)]
      exact (hs.drewN _).set_ 0 _
    · exact One.set ((One.refl s w).drewN _) 0 _

theorem Blk.i {w : World} {s : Nat} {v : Int} (h : Blk w s 3 #[.int .i64 v]) : w.cell? ⟨s, 0, none⟩ = some (.int .i64 v) := h.cell 0

set_option maxRecDepth 100000 in
set_option maxHeartbeats 1600000 in
theorem median_any {te : TypeId} {base g c s : Nat} {w : World} {d : Array Int} (h : SRow te base w g c d) (hgs : g ≠ s) (i j k sw : Nat) (hs : Blk w s 3 #[.int .i64 sw]) (hi : i < d.size) (hj : j < d.size) (hk : k < d.size) (hsw : sw ≤ 100) :
    Calls Tryz.prog 222 #[.slice (some ⟨g, 0, none⟩) d.size c, .int .i64 i, .int .i64 j, .int .i64 k, .pointer (some ⟨s, 0, none⟩)] w fun e w' =>
      e = .returned (.int .i64 (median ltInt d i j k sw).1) ∧ Blk w' s 3 #[.int .i64 (median ltInt d i j k sw).2] ∧ One s w w' := by
  obtain ⟨p1, hp1⟩ : ∃ p, p = order2 ltInt d i j sw := ⟨_, rfl⟩
  obtain ⟨p2, hp2⟩ : ∃ p, p = order2 ltInt d p1.2.1 k p1.2.2 := ⟨_, rfl⟩
  obtain ⟨p3, hp3⟩ : ∃ p, p = order2 ltInt d p1.1 p2.1 p2.2.2 := ⟨_, rfl⟩
  have hr : median ltInt d i j k sw = (p3.2.1, p3.2.2) := by subst hp3 hp2 hp1; rfl
  rw [hr]
  have c1 := order2_count ltInt d i j sw
  have c2 := order2_count ltInt d p1.2.1 k p1.2.2
  rw [← hp1] at c1
  rw [← hp2] at c2
  have m1 : p1.1 < d.size ∧ p1.2.1 < d.size := by
    have := order2_mem ltInt d i j sw
    rw [← hp1] at this
    omega
  have m2 : p2.1 < d.size ∧ p2.2.1 < d.size := by
    have := order2_mem ltInt d p1.2.1 k p1.2.2
    rw [← hp2] at this
    omega
  have o1 := order2_any h i j sw hs hi hj (by omega)
  rw [← hp1] at o1
  have O1 := Lib.hid o1
  have o2 := fun w' (h' : SRow te base w' g c d) (hs' : Blk w' s 3 #[.int .i64 p1.2.2]) => order2_any h' p1.2.1 k p1.2.2 hs' m1.2 hk (by omega)
  rw [← hp2] at o2
  have O2 := Lib.hid o2
  have o3 := fun w' (h' : SRow te base w' g c d) (hs' : Blk w' s 3 #[.int .i64 p2.2.2]) => order2_any h' p1.1 p2.1 p2.2.2 hs' m1.1 m2.1 (by omega)
  rw [← hp3] at o3
  have O3 := Lib.hid o3
  clear o1 o2 o3 hp1 hp2 hp3 hr
  go_enter Tryz.func222, Tryz.ntmps222
  go_wp2_with fail
  refine O1.out.mono ?_
  rintro e w1 ⟨rfl, hs1, ho1⟩
  have h1 := h.fr ho1 (fun e => hgs e)
  go_wp2_with fail
  refine (O2.out _ h1 hs1).mono ?_
  rintro e w2 ⟨rfl, hs2, ho2⟩
  have h2 := h1.fr ho2 (fun e => hgs e)
  go_wp2_with fail
  refine (O3.out _ h2 hs2).mono ?_
  rintro e w3 ⟨rfl, hs3, ho3⟩
  go_wp2
  go_ret
  exact ⟨rfl, hs3, (ho1.trans ho2).trans ho3⟩

set_option maxRecDepth 100000 in
set_option maxHeartbeats 1600000 in
theorem medianadj_any {te : TypeId} {base g c s : Nat} {w : World} {d : Array Int} (h : SRow te base w g c d) (hgs : g ≠ s) (i sw : Nat) (hs : Blk w s 3 #[.int .i64 sw]) (h1 : 1 ≤ i) (hi : i + 1 < d.size) (hn : d.size ≤ 1000000) (hsw : sw ≤ 100) :
    Calls Tryz.prog 221 #[.slice (some ⟨g, 0, none⟩) d.size c, .int .i64 i, .pointer (some ⟨s, 0, none⟩)] w fun e w' =>
      e = .returned (.int .i64 (medianAdjacent ltInt d i sw).1) ∧ Blk w' s 3 #[.int .i64 (medianAdjacent ltInt d i sw).2] ∧ One s w w' := by
  have hc := median_any h hgs (i - 1) i (i + 1) sw hs (by omega) (by omega) (by omega) hsw
  rw [show (((i - 1 : Nat)) : Int) = (i : Int) - 1 by omega, show (((i + 1 : Nat)) : Int) = (i : Int) + 1 by omega] at hc
  have HC := Lib.hid hc
  have hr : medianAdjacent ltInt d i sw = median ltInt d (i - 1) i (i + 1) sw := rfl
  rw [hr]
  clear hc hr
  go_enter Tryz.func221, Tryz.ntmps221
  go_wp2_with fail
  refine HC.out.mono ?_
  rintro e w1 ⟨rfl, hs1, ho1⟩
  go_wp2
  go_ret
  exact ⟨rfl, hs1, ho1⟩

set_option maxRecDepth 100000 in
set_option maxHeartbeats 3200000 in
theorem choose_any {te : TypeId} {base g c : Nat} {w : World} {d : Array Int} (h : SRow te base w g c d) (a b : Nat) (hab : a < b) (hb : b ≤ d.size) (hn : d.size ≤ 1000000) :
    Calls Tryz.prog 165 #[.slice (some ⟨g, 0, none⟩) d.size c, .int .i64 a, .int .i64 b] w fun e w' =>
      e = .returned (.tuple #[.int .i64 (choosePivot ltInt d a b).1, .int .i64 (hintCode (choosePivot ltInt d a b).2)]) ∧ New w w' := by
  rw [choosePivot_eq]
  obtain ⟨l, hl⟩ : ∃ l, l = b - a := ⟨_, rfl⟩
  have hlI : (b : Int) - (a : Int) = l := by omega
  obtain ⟨q, hq⟩ : ∃ q, q = l / 4 := ⟨_, rfl⟩
  have hqI : (l : Int) / 4 = q := by omega
  have hq4 : 4 * q ≤ l := by omega
  have hlb : a + l ≤ b := by omega
  have hlg : 0 < l := by omega
  have hglt := h.lt
  have hbox : Blk (w.alloc (.cells #[.int .i64 0] 3)) w.heap.size 3 #[.int .i64 ((0 : Nat) : Int)] := Blk.new _ _ _
  have h0 := h.new ((New.refl w).alloc (.cells #[.int .i64 0] 3))
  have hnw : New w (w.alloc (.cells #[.int .i64 0] 3)) := (New.refl w).alloc _
  have hraw : rawPivot ltInt d a b = if l ≥ 8 then (if l ≥ 50 then median ltInt d (medianAdjacent ltInt d (a + q * 1) 0).1 (medianAdjacent ltInt d (a + q * 2) (medianAdjacent ltInt d (a + q * 1) 0).2).1 (medianAdjacent ltInt d (a + q * 3) (medianAdjacent ltInt d (a + q * 2) (medianAdjacent ltInt d (a + q * 1) 0).2).2).1 (medianAdjacent ltInt d (a + q * 3) (medianAdjacent ltInt d (a + q * 2) (medianAdjacent ltInt d (a + q * 1) 0).2).2).2 else median ltInt d (a + q * 1) (a + q * 2) (a + q * 3) 0) else (a + q * 2, 0) := by
    unfold rawPivot
    rw [← hl, ← hq]
  have e1 : ((a + q * 1 : Nat) : Int) = (a : Int) + q := by omega
  have e2 : ((a + q * 2 : Nat) : Int) = (a : Int) + q * 2 := by omega
  have e3 : ((a + q * 3 : Nat) : Int) = (a : Int) + q * 3 := by omega
  have hgs : g ≠ w.heap.size := by omega
  by_cases h8 : l < 8
  · rw [hraw, if_neg (by omega)]
    have hd8 : decide (8 ≤ (l : Int)) = false := decide_eq_false (by omega)
    show Calls _ _ _ _ fun e w' => e = .returned (.tuple #[.int .i64 ((a + q * 2 : Nat) : Int), .int .i64 1]) ∧ _
    rw [e2]
    have hc0 : (w.alloc (.cells #[.int .i64 0] 3)).cell? ⟨w.heap.size, 0, none⟩ = some (.int .i64 0) := hbox.cell 0
    clear hraw e1 e2 e3 hl hq
    go_enter Tryz.func165, Tryz.ntmps165
    go_wp2
    go_ret2
    exact ⟨rfl, hnw⟩
  · have hd8 : decide (8 ≤ (l : Int)) = true := decide_eq_true (by omega)
    obtain ⟨raw, hrw⟩ : ∃ raw, raw = rawPivot ltInt d a b := ⟨_, rfl⟩
    rw [← hrw]
    rw [← hrw, if_pos (by omega)] at hraw
    by_cases h50 : l < 50
    · rw [if_neg (by omega)] at hraw
      have hd50 : decide (50 ≤ (l : Int)) = false := decide_eq_false (by omega)
      have hm := median_any h0 hgs (a + q * 1) (a + q * 2) (a + q * 3) 0 hbox (by omega) (by omega) (by omega) (by omega)
      rw [← hraw, e1, e2, e3] at hm
      have HM := Lib.hid hm
      obtain ⟨r1, r2⟩ := raw
      clear hm hraw hrw e1 e2 e3 hl hq
      dsimp only at HM ⊢
      have h012 : (r2 = 0 ∨ r2 = 12) ∨ (r2 ≠ 0 ∧ r2 ≠ 12) := by omega
      rcases h012 with (rfl | rfl) | ⟨hz1, hz2⟩
      · go_enter Tryz.func165, Tryz.ntmps165
        go_wp2_with fail
        refine HM.out.mono ?_
        rintro e w2 ⟨rfl, hs2, ho2⟩
        have hc2 : w2.cell? ⟨w.heap.size, 0, none⟩ = some (.int .i64 0) := hs2.cell 0
        go_wp2
        go_ret2
        exact ⟨rfl, New.one hnw ho2 (Nat.le_refl _)⟩
      · go_enter Tryz.func165, Tryz.ntmps165
        go_wp2_with fail
        refine HM.out.mono ?_
        rintro e w2 ⟨rfl, hs2, ho2⟩
        have hc2 : w2.cell? ⟨w.heap.size, 0, none⟩ = some (.int .i64 12) := hs2.cell 0
        go_wp2
        go_ret2
        exact ⟨rfl, New.one hnw ho2 (Nat.le_refl _)⟩
      · have hb1 : ((r2 : Int) == 0) = false := by simp; omega
        have hb2 : ((r2 : Int) == 12) = false := by simp; omega
        have hho : hintOf r2 = .unknown := by unfold hintOf; rw [if_neg hz1, if_neg hz2]
        rw [hho]
        clear hho hz1 hz2
        go_enter Tryz.func165, Tryz.ntmps165
        go_wp2_with fail
        refine HM.out.mono ?_
        rintro e w2 ⟨rfl, hs2, ho2⟩
        have hc2 : w2.cell? ⟨w.heap.size, 0, none⟩ = some (.int .i64 r2) := hs2.cell 0
        go_wp2
        go_ret2
        exact ⟨rfl, New.one hnw ho2 (Nat.le_refl _)⟩
    · rw [if_pos (by omega)] at hraw
      have hd50 : decide (50 ≤ (l : Int)) = true := decide_eq_true (by omega)
      obtain ⟨m1, hm1⟩ : ∃ m, m = medianAdjacent ltInt d (a + q * 1) 0 := ⟨_, rfl⟩
      obtain ⟨m2, hm2⟩ : ∃ m, m = medianAdjacent ltInt d (a + q * 2) m1.2 := ⟨_, rfl⟩
      obtain ⟨m3, hm3⟩ : ∃ m, m = medianAdjacent ltInt d (a + q * 3) m2.2 := ⟨_, rfl⟩
      have hraw2 : raw = median ltInt d m1.1 m2.1 m3.1 m3.2 := by rw [hraw]; subst hm3 hm2 hm1; rfl
      have k1 := medianAdjacent_count ltInt d (a + q * 1) 0
      have k2 := medianAdjacent_count ltInt d (a + q * 2) m1.2
      have k3 := medianAdjacent_count ltInt d (a + q * 3) m2.2
      have l1 := medianAdjacent_mem ltInt d (a + q * 1) 0
      have l2 := medianAdjacent_mem ltInt d (a + q * 2) m1.2
      have l3 := medianAdjacent_mem ltInt d (a + q * 3) m2.2
      rw [← hm1] at k1 l1
      rw [← hm2] at k2 l2
      rw [← hm3] at k3 l3
      have c1 := medianadj_any h0 hgs (a + q * 1) 0 hbox (by omega) (by omega) (by omega) (by omega)
      have c2 := fun w' (h' : SRow te base w' g c d) (hs' : Blk w' w.heap.size 3 #[.int .i64 m1.2]) => medianadj_any h' hgs (a + q * 2) m1.2 hs' (by omega) (by omega) (by omega) (by omega)
      have c3 := fun w' (h' : SRow te base w' g c d) (hs' : Blk w' w.heap.size 3 #[.int .i64 m2.2]) => medianadj_any h' hgs (a + q * 3) m2.2 hs' (by omega) (by omega) (by omega) (by omega)
      have c4 := fun w' (h' : SRow te base w' g c d) (hs' : Blk w' w.heap.size 3 #[.int .i64 m3.2]) => median_any h' hgs m1.1 m2.1 m3.1 m3.2 hs' (by omega) (by omega) (by omega) (by omega)
      rw [← hm1, e1] at c1
      rw [← hm2, e2] at c2
      rw [← hm3, e3] at c3
      rw [← hraw2] at c4
      have C1 := Lib.hid c1
      have C2 := Lib.hid c2
      have C3 := Lib.hid c3
      have C4 := Lib.hid c4
      obtain ⟨r1, r2⟩ := raw
      clear c1 c2 c3 c4 hraw hraw2 hrw hm1 hm2 hm3 e1 e2 e3 hl hq k1 k2 k3 l1 l2 l3
      dsimp only at C4 ⊢
      obtain ⟨b1, hb1⟩ : ∃ b1, ((r2 : Int) == 0) = b1 := ⟨_, rfl⟩
      obtain ⟨b2, hb2⟩ : ∃ b2, ((r2 : Int) == 12) = b2 := ⟨_, rfl⟩
      have hh : hintCode (hintOf r2) = if b1 then 1 else if b2 then 2 else 0 := by
        rw [← hb1, ← hb2]
        unfold hintOf
        by_cases h1 : r2 = 0
        · subst h1; rfl
        · by_cases h2 : r2 = 12
          · subst h2; rfl
          · rw [if_neg h1, if_neg h2, if_neg (by simp; omega), if_neg (by simp; omega)]; rfl
      rw [hh]
      cases b1 <;> cases b2
      all_goals simp only [if_true, if_false, Bool.false_eq_true]
      all_goals clear hh
      all_goals
        go_enter Tryz.func165, Tryz.ntmps165
        go_wp2_with fail
        refine C1.out.mono ?_
        rintro e w2 ⟨rfl, hs2, ho2⟩
        have h2 := h0.fr ho2 (fun e => hgs e)
        go_wp2_with fail
        refine (C2.out _ h2 hs2).mono ?_
        rintro e w3 ⟨rfl, hs3, ho3⟩
        have h3 := h2.fr ho3 (fun e => hgs e)
        go_wp2_with fail
        refine (C3.out _ h3 hs3).mono ?_
        rintro e w4 ⟨rfl, hs4, ho4⟩
        have h4 := h3.fr ho4 (fun e => hgs e)
        go_wp2_with fail
        refine (C4.out _ h4 hs4).mono ?_
        rintro e w5 ⟨rfl, hs5, ho5⟩
        have hc5 := hs5.i
        go_wp2
        go_ret2
        exact ⟨rfl, New.one hnw (((ho2.trans ho3).trans ho4).trans ho5) (Nat.le_refl _)⟩

end Go.Proofs.YtliimglbbiebiaaGreatDoor
end

section
/- The library's sort at uint32: the heap. -/
namespace Go.Proofs.YtliimglbbiebiaaGreatDoor
open Go.RowKit Go.Sort

def sdChild (lt : Int → Int → Bool) (hi first root : Nat) (d : Array Int) : Nat := if 2 * root + 1 + 1 < hi && lt d[first + (2 * root + 1)]! d[first + (2 * root + 1) + 1]! then 2 * root + 1 + 1 else 2 * root + 1
theorem siftDown_stop' (lt : Int → Int → Bool) (hi first root : Nat) (d : Array Int) (h : hi ≤ 2 * root + 1) : siftDown lt hi first root d = d := by
  unfold siftDown
  rw [dif_pos (by omega)]
theorem siftDown_step' (lt : Int → Int → Bool) (hi first root : Nat) (d : Array Int) (h : 2 * root + 1 < hi) {ch : Nat} (hc : sdChild lt hi first root d = ch) :
    siftDown lt hi first root d = if lt d[first + root]! d[first + ch]! then siftDown lt hi first ch (swp d (first + root) (first + ch)) else d := by
  subst hc
  conv => lhs; unfold siftDown
  rw [dif_neg (by omega)]
  unfold sdChild
  by_cases h1 : (decide (2 * root + 1 + 1 < hi) && lt d[first + (2 * root + 1)]! d[first + (2 * root + 1) + 1]!) = true
  · rw [if_pos h1, if_pos h1]
    have h2 : 2 * root + 2 < hi := by simp at h1; omega
    rw [dif_pos h2]
    show (if (!lt d[first + root]! d[first + (2 * root + 2)]!) = true then d else siftDown lt hi first (2 * root + 2) (swp d (first + root) (first + (2 * root + 2)))) = if lt d[first + root]! d[first + (2 * root + 2)]! = true then siftDown lt hi first (2 * root + 2) (swp d (first + root) (first + (2 * root + 2))) else d
    cases lt d[first + root]! d[first + (2 * root + 2)]! <;> simp
  · rw [if_neg h1, if_neg h1]
    cases lt d[first + root]! d[first + (2 * root + 1)]! <;> simp

set_option maxRecDepth 100000 in
set_option maxHeartbeats 1600000 in
theorem sift_any {te : TypeId} {base g c : Nat} {w : World} {d : Array Int} (h : SRow te base w g c d) (lo hi first : Nat) (hlo : lo ≤ 1000000) (hhi : first + hi ≤ d.size) (hn : d.size ≤ 1000000) :
    Calls Tryz.prog 218 #[.slice (some ⟨g, 0, none⟩) d.size c, .int .i64 lo, .int .i64 hi, .int .i64 first] w fun e w' => e = .returned (.tuple #[]) ∧ SRow te base w' g c (siftDown ltInt hi first lo d) ∧ (siftDown ltInt hi first lo d).size = d.size ∧ One g w w' := by
  go_enter Tryz.func218, Tryz.ntmps218
  go_wp2
  go_loopw [8] (fun vr wr => ∃ (root : Nat) (dk : Array Int), vr = .int .i64 root ∧ root ≤ 1000000 ∧ dk.size = d.size ∧ SRow te base wr g c dk ∧ One g w wr ∧ Hid (siftDown ltInt hi first root dk = siftDown ltInt hi first lo d)) (fun vr _ => hi - (intOf vr).toNat)
  case atStart => exact ⟨lo, d, rfl, hlo, rfl, h, One.refl _ _, rfl⟩
  case round =>
    obtain ⟨root, dk, rfl, hr, hsk, hR, hO, HE⟩ := hrel
    clear h
    by_cases hc1 : hi ≤ 2 * root + 1
    · have hE := HE.out
      rw [siftDown_stop' _ _ _ _ _ hc1] at hE
      have HE2 := Lib.hid hE
      clear hE
      go_wp2
      go_end0
      exact ⟨rfl, by rw [← HE2.out]; exact hR, by rw [← HE2.out]; exact hsk, hO⟩
    · have hf := fun ch hc => siftDown_step' ltInt hi first root dk (by omega) (ch := ch) hc
      have HF0 := Lib.hid hf
      clear hf
      obtain ⟨x, hx⟩ : ∃ x, dk[first + root]! = x := ⟨_, rfl⟩
      have hcx := fun m => (hR.drewN m).cell (t := first + root) (by omega)
      have hfx := fun m => (hR.drewN m).frozen (first + root)
      rw [hx] at hcx
      have hd1 : decide ((hi : Int) ≤ 2 * (root : Int) + 1) = false := decide_eq_false (by omega)
      by_cases hc2 : 2 * root + 1 + 1 < hi
      · obtain ⟨u, hu⟩ : ∃ u, dk[first + (2 * root + 1)]! = u := ⟨_, rfl⟩
        obtain ⟨v, hv⟩ : ∃ v, dk[first + (2 * root + 1) + 1]! = v := ⟨_, rfl⟩
        have hcu := fun m => (hR.drewN m).cell (t := first + (2 * root + 1)) (by omega)
        have hcv := fun m => (hR.drewN m).cell (t := first + (2 * root + 1) + 1) (by omega)
        rw [hu] at hcu
        rw [hv] at hcv
        have hd2 : decide (2 * (root : Int) + 1 + 1 < hi) = true := decide_eq_true (by omega)
        obtain ⟨q1, hq1⟩ : ∃ q, ltInt u v = q := ⟨_, rfl⟩
        have hless1 : ∀ n, Calls Tryz.prog 168 #[.int .u32 u, .int .u32 v] (wr.drewN n) fun e w' => e = .returned (.bool q1) ∧ w' = wr.drewN n := fun n => by rw [← hq1]; exact less_any u v _
        have HLS1 := Lib.hid hless1
        have hsd : sdChild ltInt hi first root dk = if q1 then 2 * root + 1 + 1 else 2 * root + 1 := by
          unfold sdChild
          rw [hu, hv, hq1, decide_eq_true hc2, Bool.true_and]
        have HSD := Lib.hid hsd
        have HU := Lib.hid hu
        clear hless1 hq1 hu hv hsd
        cases q1
        · have HF := Lib.hid (fun (_ : True) => HF0.out (2 * root + 1) HSD.out)
          clear HF0 HSD
          have hF := HF.out trivial
          obtain ⟨y, hy⟩ : ∃ y, dk[first + (2 * root + 1)]! = y := ⟨_, rfl⟩
          obtain rfl : y = u := hy.symm.trans HU.out
          have hcy := fun m => (hR.drewN m).cell (t := first + (2 * root + 1)) (by omega)
          have hfy := fun m => (hR.drewN m).frozen (first + (2 * root + 1))
          have hsw := fun m => hR.two m (first + root) (first + (2 * root + 1))
          have hone := fun m => One.two hO m (first + root) (first + (2 * root + 1)) (.int .u32 dk[first + (2 * root + 1)]!) (.int .u32 dk[first + root]!)
          have HSW := Lib.hid hsw
          have HONE := Lib.hid hone
          have HF2 := Lib.hid hF
          clear hsw hone hF
          rw [hy] at hcy HSW HONE HF2
          rw [hx] at HSW HONE HF2
          have HX := Lib.hid hx
          have HY := Lib.hid hy
          clear hx hy
          have s1 : IntKind.i64.wrap ((first : Int) + root) = (first : Int) + root := IntWalk.i64_in _ (by omega)
          have s2 : ((first : Int) + root).toNat = first + root := by omega
          have s3 : 0 ≤ (first : Int) + root := by omega
          have s4 : IntKind.i64.wrap ((first : Int) + (2 * (root : Int) + 1)) = (first : Int) + (2 * (root : Int) + 1) := IntWalk.i64_in _ (by omega)
          have s5 : ((first : Int) + (2 * (root : Int) + 1)).toNat = first + (2 * root + 1) := by omega
          have s6 : 0 ≤ (first : Int) + (2 * (root : Int) + 1) := by omega
          have s7 : (first : Int) + root < (d.size : Int) := by omega
          have s8 : (first : Int) + (2 * (root : Int) + 1) < (d.size : Int) := by omega
          have s9 : first + root < d.size := by omega
          have s10 : first + (2 * root + 1) < d.size := by omega
          obtain ⟨q, hq⟩ : ∃ q, ltInt x y = q := ⟨_, rfl⟩
          rw [hq] at HF2
          have hless : ∀ W, Calls Tryz.prog 168 #[.int .u32 x, .int .u32 y] W fun e w' => e = .returned (.bool q) ∧ w' = W := fun W => by rw [← hq]; exact less_any x y _
          have HLS := Lib.hid hless
          clear hless hq
          cases q
          · go_wp2_with fail
            go_quiet (first | (go_at_call 168; refine Calls.quiet_of_same (HLS1.out _)))
            go_wp2_with fail
            go_quiet ((go_at_call 168; with_reducible (first | exact quiet1 HLS.out | exact quiet2 HLS.out | exact quiet3 HLS.out)))
            go_wp2
            refine bodyPost_ret (results_none rfl _ _ _) rfl ?_
            have hf := HF2.out
            rw [if_neg (by simp)] at hf
            have hfs : siftDown ltInt hi first lo d = dk := by rw [← HE.out, hf]
            rw [hfs]
            first
              | exact ⟨rfl, hR.drewN _, hsk, Fr.drewN hO _⟩
              | exact ⟨rfl, (hR.drewN _).drewN _, hsk, Fr.drewN (Fr.drewN hO _) _⟩
          · go_wp2_with fail
            go_quiet (first | (go_at_call 168; refine Calls.quiet_of_same (HLS1.out _)))
            go_wp2_with fail
            go_quiet ((go_at_call 168; with_reducible (first | exact quiet1 HLS.out | exact quiet2 HLS.out | exact quiet3 HLS.out)))
            go_wp2
            go_region
            all_goals go_wp2
            go_roundw
            case rel =>
              refine ⟨2 * root + 1, swp dk (first + root) (first + (2 * root + 1)), by go_num, by omega, by rw [swp_size]; exact hsk, HSW.out _, HONE.out _, ?_⟩
              have hf := HF2.out
              first | rw [if_pos rfl] at hf | rw [if_pos True.intro] at hf
              show siftDown ltInt hi first (2 * root + 1) (swp dk (first + root) (first + (2 * root + 1))) = _
              rw [← HE.out, hf]
            case measure => simp [intOf]; omega
        · have HF := Lib.hid (fun (_ : True) => HF0.out (2 * root + 1 + 1) HSD.out)
          clear HF0 HSD
          have hF := HF.out trivial
          obtain ⟨y, hy⟩ : ∃ y, dk[first + (2 * root + 1 + 1)]! = y := ⟨_, rfl⟩
          have hcy := fun m => (hR.drewN m).cell (t := first + (2 * root + 1 + 1)) (by omega)
          have hfy := fun m => (hR.drewN m).frozen (first + (2 * root + 1 + 1))
          have hsw := fun m => hR.two m (first + root) (first + (2 * root + 1 + 1))
          have hone := fun m => One.two hO m (first + root) (first + (2 * root + 1 + 1)) (.int .u32 dk[first + (2 * root + 1 + 1)]!) (.int .u32 dk[first + root]!)
          have HSW := Lib.hid hsw
          have HONE := Lib.hid hone
          have HF2 := Lib.hid hF
          clear hsw hone hF
          rw [hy] at hcy HSW HONE HF2
          rw [hx] at HSW HONE HF2
          have HX := Lib.hid hx
          have HY := Lib.hid hy
          clear hx hy
          have s1 : IntKind.i64.wrap ((first : Int) + root) = (first : Int) + root := IntWalk.i64_in _ (by omega)
          have s2 : ((first : Int) + root).toNat = first + root := by omega
          have s3 : 0 ≤ (first : Int) + root := by omega
          have s4 : IntKind.i64.wrap ((first : Int) + (2 * (root : Int) + 1 + 1)) = (first : Int) + (2 * (root : Int) + 1 + 1) := IntWalk.i64_in _ (by omega)
          have s5 : ((first : Int) + (2 * (root : Int) + 1 + 1)).toNat = first + (2 * root + 1 + 1) := by omega
          have s6 : 0 ≤ (first : Int) + (2 * (root : Int) + 1 + 1) := by omega
          have s7 : (first : Int) + root < (d.size : Int) := by omega
          have s8 : (first : Int) + (2 * (root : Int) + 1 + 1) < (d.size : Int) := by omega
          have s9 : first + root < d.size := by omega
          have s10 : first + (2 * root + 1 + 1) < d.size := by omega
          obtain ⟨q, hq⟩ : ∃ q, ltInt x y = q := ⟨_, rfl⟩
          rw [hq] at HF2
          have hless : ∀ W, Calls Tryz.prog 168 #[.int .u32 x, .int .u32 y] W fun e w' => e = .returned (.bool q) ∧ w' = W := fun W => by rw [← hq]; exact less_any x y _
          have HLS := Lib.hid hless
          clear hless hq
          cases q
          · go_wp2_with fail
            go_quiet (first | (go_at_call 168; refine Calls.quiet_of_same (HLS1.out _)))
            go_wp2_with fail
            go_quiet ((go_at_call 168; with_reducible (first | exact quiet1 HLS.out | exact quiet2 HLS.out | exact quiet3 HLS.out)))
            go_wp2
            refine bodyPost_ret (results_none rfl _ _ _) rfl ?_
            have hf := HF2.out
            rw [if_neg (by simp)] at hf
            have hfs : siftDown ltInt hi first lo d = dk := by rw [← HE.out, hf]
            rw [hfs]
            first
              | exact ⟨rfl, hR.drewN _, hsk, Fr.drewN hO _⟩
              | exact ⟨rfl, (hR.drewN _).drewN _, hsk, Fr.drewN (Fr.drewN hO _) _⟩
          · go_wp2_with fail
            go_quiet (first | (go_at_call 168; refine Calls.quiet_of_same (HLS1.out _)))
            go_wp2_with fail
            go_quiet ((go_at_call 168; with_reducible (first | exact quiet1 HLS.out | exact quiet2 HLS.out | exact quiet3 HLS.out)))
            go_wp2
            go_region
            all_goals go_wp2
            go_roundw
            case rel =>
              refine ⟨2 * root + 1 + 1, swp dk (first + root) (first + (2 * root + 1 + 1)), by go_num, by omega, by rw [swp_size]; exact hsk, HSW.out _, HONE.out _, ?_⟩
              have hf := HF2.out
              first | rw [if_pos rfl] at hf | rw [if_pos True.intro] at hf
              show siftDown ltInt hi first (2 * root + 1 + 1) (swp dk (first + root) (first + (2 * root + 1 + 1))) = _
              rw [← HE.out, hf]
            case measure => simp [intOf]; omega
      · have hd2 : decide (2 * (root : Int) + 1 + 1 < hi) = false := decide_eq_false (by omega)
        have hsd : sdChild ltInt hi first root dk = 2 * root + 1 := by
          unfold sdChild
          rw [decide_eq_false hc2, Bool.false_and, if_neg (by simp)]
        have HF := Lib.hid (fun (_ : True) => HF0.out (2 * root + 1) hsd)
        clear HF0 hsd
        have hF := HF.out trivial
        obtain ⟨y, hy⟩ : ∃ y, dk[first + (2 * root + 1)]! = y := ⟨_, rfl⟩
        have hcy := fun m => (hR.drewN m).cell (t := first + (2 * root + 1)) (by omega)
        have hfy := fun m => (hR.drewN m).frozen (first + (2 * root + 1))
        have hsw := fun m => hR.two m (first + root) (first + (2 * root + 1))
        have hone := fun m => One.two hO m (first + root) (first + (2 * root + 1)) (.int .u32 dk[first + (2 * root + 1)]!) (.int .u32 dk[first + root]!)
        have HSW := Lib.hid hsw
        have HONE := Lib.hid hone
        have HF2 := Lib.hid hF
        clear hsw hone hF
        rw [hy] at hcy HSW HONE HF2
        rw [hx] at HSW HONE HF2
        have HX := Lib.hid hx
        have HY := Lib.hid hy
        clear hx hy
        have s1 : IntKind.i64.wrap ((first : Int) + root) = (first : Int) + root := IntWalk.i64_in _ (by omega)
        have s2 : ((first : Int) + root).toNat = first + root := by omega
        have s3 : 0 ≤ (first : Int) + root := by omega
        have s4 : IntKind.i64.wrap ((first : Int) + (2 * (root : Int) + 1)) = (first : Int) + (2 * (root : Int) + 1) := IntWalk.i64_in _ (by omega)
        have s5 : ((first : Int) + (2 * (root : Int) + 1)).toNat = first + (2 * root + 1) := by omega
        have s6 : 0 ≤ (first : Int) + (2 * (root : Int) + 1) := by omega
        have s7 : (first : Int) + root < (d.size : Int) := by omega
        have s8 : (first : Int) + (2 * (root : Int) + 1) < (d.size : Int) := by omega
        have s9 : first + root < d.size := by omega
        have s10 : first + (2 * root + 1) < d.size := by omega
        obtain ⟨q, hq⟩ : ∃ q, ltInt x y = q := ⟨_, rfl⟩
        rw [hq] at HF2
        have hless : ∀ W, Calls Tryz.prog 168 #[.int .u32 x, .int .u32 y] W fun e w' => e = .returned (.bool q) ∧ w' = W := fun W => by rw [← hq]; exact less_any x y _
        have HLS := Lib.hid hless
        clear hless hq
        cases q
        · go_wp2_with fail
          go_quiet (fail)
          go_wp2_with fail
          go_quiet ((go_at_call 168; with_reducible (first | exact quiet1 HLS.out | exact quiet2 HLS.out | exact quiet3 HLS.out)))
          go_wp2
          refine bodyPost_ret (results_none rfl _ _ _) rfl ?_
          have hf := HF2.out
          rw [if_neg (by simp)] at hf
          have hfs : siftDown ltInt hi first lo d = dk := by rw [← HE.out, hf]
          rw [hfs]
          first
            | exact ⟨rfl, hR.drewN _, hsk, Fr.drewN hO _⟩
            | exact ⟨rfl, (hR.drewN _).drewN _, hsk, Fr.drewN (Fr.drewN hO _) _⟩
        · go_wp2_with fail
          go_quiet (fail)
          go_wp2_with fail
          go_quiet ((go_at_call 168; with_reducible (first | exact quiet1 HLS.out | exact quiet2 HLS.out | exact quiet3 HLS.out)))
          go_wp2
          go_region
          all_goals go_wp2
          go_roundw
          case rel =>
            refine ⟨2 * root + 1, swp dk (first + root) (first + (2 * root + 1)), by go_num, by omega, by rw [swp_size]; exact hsk, HSW.out _, HONE.out _, ?_⟩
            have hf := HF2.out
            first | rw [if_pos rfl] at hf | rw [if_pos True.intro] at hf
            show siftDown ltInt hi first (2 * root + 1) (swp dk (first + root) (first + (2 * root + 1))) = _
            rw [← HE.out, hf]
          case measure => simp [intOf]; omega

end Go.Proofs.YtliimglbbiebiaaGreatDoor
end

