/- LockPlays: the walk. -/
import Derived.Test.YtflalhciohdahaaLockPair
import Derived.Test.YtflalhciohdahaaOpenLk
import Derived.Deep.RegionHeld3
import Derived.Lib.MinMax
namespace Go.Proofs.Ytflalhciohdahaa
open Go.RowKit

set_option maxRecDepth 100000 in
set_option maxHeartbeats 6400000 in
theorem plays_any (nn : Int) (x : Value × List (Int × Int)) (w : World) (hk0 : 0 ≤ nn) (hk1 : nn ≤ 255) (h : Rd lopE w x.1 x.2 ∧ (∀ y ∈ x.2, lopOk y) ∧ x.2.length ≤ maxLen) :
    Calls Try.prog 6 #[.int .u8 nn, x.1] w fun e w' => e = .returned (.bool true) ∧ New w w' := by
  obtain ⟨v, l⟩ := x
  obtain ⟨hv, hw, hlm⟩ := h
  dsimp only at hv hw hlm ⊢
  unfold maxLen at hlm
  have HW := Lib.hid hw
  clear hw
  obtain ⟨A, c, rfl, hc, hcells⟩ := hv
  have HC := Lib.hid hcells
  clear hcells
  rcases Nat.lt_or_ge 100 l.length with hl | hl
  · go_enter Try.func6, Try.ntmps6
    go_wp2_with fail
    refine (alive_any _).mono ?_
    rintro e w2 ⟨rfl, hn2⟩
    go_wp2
    go_ret
    exact ⟨rfl, hn2⟩
  · clear hlm
    obtain ⟨m, hm'⟩ : ∃ m : Nat, nn % 20 = m := ⟨(nn % 20).toNat, by omega⟩
    have hm20 : m < 20 := by omega
    have HM := Lib.hid hm'
    clear hm'
    go_enter Try.func6, Try.ntmps6
    go_wp2_with fail
    rw [HM.out]
    refine (lnew_any m (by omega) (by omega) _).mono ?_
    rintro e w1 ⟨b, bm, rfl, ht1, hb, hm, hn1⟩
    rw [Int.toNat_natCast] at ht1
    go_wp2_with fail
    refine (rnew_any m (by omega) _).mono ?_
    rintro e w2 ⟨rv, rfl, hr2, hn2⟩
    have ht2 := ht1.new hn2
    have hn12 := hn1.trans hn2
    have hs12 := hn12.size
    have hs1 := hn1.size
    obtain ⟨rA, rC, hrv, hrC⟩ := hr2.form
    rw [List.length_replicate] at hrv hrC
    subst hrv
    have hr3 : RTab w.heap.size (w2.alloc (.cells #[.slice rA m rC, .int .i64 0] 32)) w2.heap.size (.slice rA m rC) (List.replicate m (-1)) 0 := ⟨Blk.new _ _ _, (hr2.alloc _).mono hs1⟩
    have ht3 : Tab (w2.alloc (.cells #[.slice rA m rC, .int .i64 0] 32)) b bm (List.replicate m (-1)) 0 := ht2.new ((New.refl _).alloc _)
    have hn3 := hn12.alloc (.cells #[.slice rA m rC, .int .i64 0] 32)
    clear ht1 ht2 hr2 hn1 hn2 hn12
    go_wp2_with fail
    refine (llen_any ht3).mono ?_
    rw [List.length_replicate]
    rintro e w4 ⟨rfl, rfl⟩
    go_wp2
    generalize w2.heap.size = g at *
    go_loopw [34] (fun vi wr => ∃ (k : Nat) (O : List Int) (N : Int), k ≤ l.length ∧ vi = .int .i64 k ∧ N ≤ k ∧ O.length = m ∧ Tab wr b bm O N ∧ RTab w.heap.size wr g (.slice rA m rC) O N ∧ New w wr) (fun vi _ => l.length - (intOf vi).toNat)
    case atStart => exact ⟨0, _, 0, Nat.zero_le _, rfl, Int.le_refl _, by simp, ht3, hr3, hn3⟩
    case round =>
      obtain ⟨k, O, N, hk, rfl, hNk, hO9, ht, hr, hnew⟩ := hrel
      clear ht3 hr3 hn3
      have hNlo := ht.lo
      by_cases hkl : k < l.length
      · obtain ⟨x, hx⟩ : ∃ x, l[k]? = some x := ⟨_, List.getElem?_eq_getElem hkl⟩
        obtain ⟨bb, off, rfl, hcell⟩ := HC.out (by rintro rfl; simp at hkl)
        obtain ⟨hx1, hx2⟩ := HW.out x (List.mem_of_getElem? hx)
        obtain ⟨xo, xk⟩ := x
        have c0 : wr.cell? ⟨bb, off + k * 2, none⟩ = some (.int .i64 xo) := Fr.cell hnew (hcell k _ hx 0 _ rfl) id
        have c1 : wr.cell? ⟨bb, off + k * 2 + 1, none⟩ = some (.int .i64 xk) := Fr.cell hnew (hcell k _ hx 1 _ rfl) id
        have HX1 := Lib.hid hx1
        have HX2 := Lib.hid hx2
        clear hcell hx hx1 hx2
        have hnew1 := hnew.alloc (.cells #[.int .i64 xo, .int .i64 xk] 35)
        have hbox : Blk (wr.alloc (.cells #[.int .i64 xo, .int .i64 xk] 35)) wr.heap.size 35 #[.int .i64 xo, .int .i64 xk] := Blk.new _ _ _
        have ht1 := ht.new ((New.refl wr).alloc (.cells #[.int .i64 xo, .int .i64 xk] 35))
        have hr1 := hr.new ((New.refl wr).alloc (.cells #[.int .i64 xo, .int .i64 xk] 35))
        have hlb := ht.lt
        have hlm := ht.ltm
        have hlg := hr.blk.lt
        have hsz := hnew.size
        have hvl : ∀ q, (Value.slice rA m rC).ownBlock = some q → q < wr.heap.size := fun q hq => (hr.own.block hq).2
        have HVL := Lib.hid hvl
        clear hvl
        have e0 : (wr.alloc (.cells #[.int .i64 xo, .int .i64 xk] 35)).cell? ⟨wr.heap.size, 0, none⟩ = some (.int .i64 xo) := hbox.cell 0
        have e1 : (wr.alloc (.cells #[.int .i64 xo, .int .i64 xk] 35)).cell? ⟨wr.heap.size, 1, none⟩ = some (.int .i64 xk) := hbox.cell 1
        generalize hW : wr.alloc (.cells #[.int .i64 xo, .int .i64 xk] 35) = wb at *
        have HWB := Lib.hid hW
        clear hW
        by_cases hx2 : xk = -2
        case' pos =>
          subst hx2
          go_wp2_with fail
          rw [HWB.out]
          go_region_held3 (fun W => W.cell? ⟨wr.heap.size, 0, none⟩ = some (.int .i64 xo))
            (first | exact e0 | exact s0 | exact t0)
            (first
              | (go_at_call 18; refine (lrelease_any (ht1.new ((New.refl wb).drew)) xo).mono ?_; rintro e w3 ⟨rfl, ht3, hf3⟩; have hr3 := (hr1.new ((New.refl wb).drew)).tfr (ht1.new ((New.refl wb).drew)) hf3; have hbox3 := Fr.blk hf3 hbox.drew (fun hs => by rcases hs with hs | hs <;> omega); have s0 : w3.cell? ⟨wr.heap.size, 0, none⟩ = some (.int .i64 xo) := hbox3.cell 0)
              | (go_at_call 19; refine (rrelease_any hr3 (by omega) ht.ows xo).mono ?_; rintro e w4 ⟨rfl, hr4, hf4⟩; have hbox4 := Fr.blk hf4 hbox3 (fun hs => by rcases hs with hs | hs; omega; have := HVL.out _ hs; omega); have t0 : w4.cell? ⟨wr.heap.size, 0, none⟩ = some (.int .i64 xo) := hbox4.cell 0))
          have ht4 := ht3.rfr hr3 hf4
          have hn4 := RFr.new (TFr.new hnew1.drew hf3 (by omega) (by omega)) hr3 (by omega) hf4
          have hN4 : N ≤ (k + 1 : Nat) := by omega
          have hO4 : (relO O xo).length = m := by rw [relO_len]; exact hO9
          have hN40 := hNlo
          generalize relO O xo = O4 at *
          obtain ⟨N4, hN4e⟩ : ∃ N4, N4 = N := ⟨_, rfl⟩
          rw [← hN4e] at ht4 hr4 hN4 hN40
          clear ht hr ht1 hr1 ht3 hr3 hbox hbox3 hf3 hf4 hN4e e0 e1 s0 c0 c1
          have t1 : w4.cell? ⟨wr.heap.size, 1, none⟩ = some (.int .i64 (-2)) := hbox4.cell 1
          obtain ⟨xk, hxk⟩ : ∃ xk : Int, xk = -2 := ⟨_, rfl⟩
          rw [← hxk] at t1 hbox4 HX2
          clear hxk
          go_wp2_with fail
        case' neg =>
          have hx2' : (xk == -2) = false := by simp [hx2]
          clear hx2
          go_wp2_with fail
          rw [HWB.out]
          go_region_held3 (fun W => W.cell? ⟨wr.heap.size, 0, none⟩ = some (.int .i64 xo) ∧ W.cell? ⟨wr.heap.size, 1, none⟩ = some (.int .i64 xk))
            (first | exact ⟨e0, e1⟩ | exact ⟨s0, s1⟩ | exact ⟨t0, t1⟩)
            (first
              | (go_at_call 13; refine (lacquire_any (ht1.new ((New.refl wb).drew)) (by omega) xo xk HX1.out HX2.out).mono ?_; rintro e w3 ⟨rfl, ht3, hf3⟩; have hr3 := (hr1.new ((New.refl wb).drew)).tfr (ht1.new ((New.refl wb).drew)) hf3; have hbox3 := Fr.blk hf3 hbox.drew (fun hs => by rcases hs with hs | hs <;> omega); have s0 : w3.cell? ⟨wr.heap.size, 0, none⟩ = some (.int .i64 xo) := hbox3.cell 0; have s1 : w3.cell? ⟨wr.heap.size, 1, none⟩ = some (.int .i64 xk) := hbox3.cell 1)
              | (go_at_call 15; refine (racquire_any hr3 (by omega) hNlo (by omega) xo xk).mono ?_; rintro e w4 ⟨rfl, hr4, hf4⟩; have hbox4 := Fr.blk hf4 hbox3 (fun hs => by rcases hs with hs | hs; omega; have := HVL.out _ hs; omega); have t0 : w4.cell? ⟨wr.heap.size, 0, none⟩ = some (.int .i64 xo) := hbox4.cell 0; have t1 : w4.cell? ⟨wr.heap.size, 1, none⟩ = some (.int .i64 xk) := hbox4.cell 1))
          have ht4 := ht3.rfr hr3 hf4
          have hn4 := RFr.new (TFr.new hnew1.drew hf3 (by omega) (by omega)) hr3 (by omega) hf4
          have hN4 : N + acqN O xo xk ≤ (k + 1 : Nat) := by
            have : acqN O xo xk ≤ 1 := by unfold acqN; split <;> omega
            omega
          have hN40 : 0 ≤ N + acqN O xo xk := by omega
          have hO4 : (acqO O xo xk).length = m := by rw [acqO_len]; exact hO9
          generalize acqO O xo xk = O4 at *
          generalize N + acqN O xo xk = N4 at *
          clear ht hr ht1 hr1 ht3 hr3 hbox hbox3 hf3 hf4 e0 e1 s0 s1 c0 c1 hx2'
          go_wp2_with fail
        all_goals
          refine (lowner_any ht4 xk HX2.out).mono ?_
          rintro e w5 ⟨rfl, rfl⟩
          have g0 : w4.cell? ⟨g, 0, none⟩ = some (.slice rA m rC) := hr4.blk.cell 0
          have g1 : w4.cell? ⟨g, 1, none⟩ = some (.int .i64 N4) := hr4.blk.cell 1
          go_wp2_with fail
          refine (rowner_any _ O4 N4 xk w4 hr4.own.rd (by omega)).mono ?_
          rintro e w5 ⟨rfl, hn5⟩
          have ht5 := ht4.new hn5
          have hr5 := hr4.new hn5
          have hbox5 := hn5.blk hbox4
          have hn05 := hn4.trans hn5
          have s0 : w5.cell? ⟨g, 0, none⟩ = some (.slice rA m rC) := hr5.blk.cell 0
          have s1 : w5.cell? ⟨g, 1, none⟩ = some (.int .i64 N4) := hr5.blk.cell 1
          have s2 : w5.cell? ⟨wr.heap.size, 0, none⟩ = some (.int .i64 xo) := hbox5.cell 0
          clear ht4 hr4 hbox4 hn4 hn5 t0 t1 g0 g1
          have hylo := ownerP_lo ht5.ows xk
          generalize ownerP O4 xk = y at *
          have hhl := heldP_len O4 xo
          by_cases hy : 0 ≤ y
          · rw [decide_eq_true hy, show max y 0 = y by omega]
            obtain ⟨yn, rfl⟩ : ∃ yn : Nat, y = yn := ⟨y.toNat, by omega⟩
            clear hy hylo
            have hmx : max (yn : Int) 0 = yn := by omega
            have hy1 : decide (0 ≤ (yn : Int)) = true := by simp
            go_wp2_with fail
            go_region_held3 (fun W => W.cell? ⟨g, 0, none⟩ = some (.slice rA m rC) ∧ W.cell? ⟨g, 1, none⟩ = some (.int .i64 N4) ∧ W.cell? ⟨wr.heap.size, 0, none⟩ = some (.int .i64 xo))
              (first | exact ⟨s0, s1, s2⟩ | exact ⟨p0, p1, p2⟩ | exact ⟨q0, q1, q2⟩ | exact ⟨r0, r1, r2⟩ | exact ⟨x0, x1, x2⟩)
              (first
                | (go_at_call 23; refine (lheld_any (ht5.new ((New.refl w5).drew)) xo).mono ?_; rintro e w6 ⟨hv, rfl, hh, hn6'⟩; have hn6 : New w5 w6 := ((New.refl w5).drew).trans hn6'; have p0 : w6.cell? ⟨g, 0, none⟩ = some (.slice rA m rC) := Fr.cell hn6 s0 id; have p1 : w6.cell? ⟨g, 1, none⟩ = some (.int .i64 N4) := Fr.cell hn6 s1 id; have p2 : w6.cell? ⟨wr.heap.size, 0, none⟩ = some (.int .i64 xo) := Fr.cell hn6 s2 id; have hr6 := hr5.new hn6; have ht6 := ht5.new hn6)
                | (go_at_call 24; refine (rheld_any _ O4 N4 xo _ hr6.own.rd (by omega)).mono ?_; rintro e w7 ⟨hv7, rfl, hh7, hn7⟩; have q0 : w7.cell? ⟨g, 0, none⟩ = some (.slice rA m rC) := Fr.cell hn7 p0 id; have q1 : w7.cell? ⟨g, 1, none⟩ = some (.int .i64 N4) := Fr.cell hn7 p1 id; have q2 : w7.cell? ⟨wr.heap.size, 0, none⟩ = some (.int .i64 xo) := Fr.cell hn7 p2 id; have hr7 := hr6.new hn7; have ht7 := ht6.new hn7)
                | (go_at_call 22; refine (iequal_any _ _ (heldP O4 xo) (heldP O4 xo) _ (hh.new hn7).rd hh7.rd (by omega) (by omega)).mono ?_; rw [decide_eq_true (Eq.refl (heldP O4 xo))]; rintro e w8 ⟨rfl, hn8⟩; have r0 : w8.cell? ⟨g, 0, none⟩ = some (.slice rA m rC) := Fr.cell hn8 q0 id; have r1 : w8.cell? ⟨g, 1, none⟩ = some (.int .i64 N4) := Fr.cell hn8 q1 id; have r2 : w8.cell? ⟨wr.heap.size, 0, none⟩ = some (.int .i64 xo) := Fr.cell hn8 q2 id; have hr8 := hr7.new hn8; have ht8 := ht7.new hn8)
                | (go_at_call 12; refine (lfree_any ht8).mono ?_; rintro e w9 ⟨rfl, rfl⟩)
                | (go_at_call 25; refine (rfree_any _ O4 N4 _ hr8.own.rd (by omega)).mono ?_; rintro e w9 ⟨rfl, hn9⟩; have x0 : w9.cell? ⟨g, 0, none⟩ = some (.slice rA m rC) := Fr.cell hn9 r0 id; have x1 : w9.cell? ⟨g, 1, none⟩ = some (.int .i64 N4) := Fr.cell hn9 r1 id; have x2 : w9.cell? ⟨wr.heap.size, 0, none⟩ = some (.int .i64 xo) := Fr.cell hn9 r2 id; have hr9 := hr8.new hn9; have ht9 := ht8.new hn9)
                | (go_at_call 26; refine (lacquired_any ht9).mono ?_; rintro e w10 ⟨rfl, rfl⟩))
            have hnf := (((hn05.trans hn6).trans hn7).trans hn8).trans hn9
            go_wp2
            go_roundw
            case rel => exact ⟨k + 1, O4, N4, by omega, by go_num, hN4, hO4, ht9, hr9, hnf⟩
            case measure => simp [intOf]; omega
          · rw [decide_eq_false hy, show max y 0 = 0 by omega]
            have hmx : max y 0 = 0 := by omega
            have hy1 : decide (0 ≤ y) = false := decide_eq_false hy
            have hy2 : y < 0 := by omega
            clear hy hylo
            go_wp2_with fail
            go_region_held3 (fun W => W.cell? ⟨g, 0, none⟩ = some (.slice rA m rC) ∧ W.cell? ⟨g, 1, none⟩ = some (.int .i64 N4) ∧ W.cell? ⟨wr.heap.size, 0, none⟩ = some (.int .i64 xo))
              (first | exact ⟨s0, s1, s2⟩ | exact ⟨p0, p1, p2⟩ | exact ⟨q0, q1, q2⟩ | exact ⟨r0, r1, r2⟩ | exact ⟨x0, x1, x2⟩)
              (first
                | (go_at_call 23; refine (lheld_any (ht5.new ((New.refl w5).drew)) xo).mono ?_; rintro e w6 ⟨hv, rfl, hh, hn6'⟩; have hn6 : New w5 w6 := ((New.refl w5).drew).trans hn6'; have p0 : w6.cell? ⟨g, 0, none⟩ = some (.slice rA m rC) := Fr.cell hn6 s0 id; have p1 : w6.cell? ⟨g, 1, none⟩ = some (.int .i64 N4) := Fr.cell hn6 s1 id; have p2 : w6.cell? ⟨wr.heap.size, 0, none⟩ = some (.int .i64 xo) := Fr.cell hn6 s2 id; have hr6 := hr5.new hn6; have ht6 := ht5.new hn6)
                | (go_at_call 24; refine (rheld_any _ O4 N4 xo _ hr6.own.rd (by omega)).mono ?_; rintro e w7 ⟨hv7, rfl, hh7, hn7⟩; have q0 : w7.cell? ⟨g, 0, none⟩ = some (.slice rA m rC) := Fr.cell hn7 p0 id; have q1 : w7.cell? ⟨g, 1, none⟩ = some (.int .i64 N4) := Fr.cell hn7 p1 id; have q2 : w7.cell? ⟨wr.heap.size, 0, none⟩ = some (.int .i64 xo) := Fr.cell hn7 p2 id; have hr7 := hr6.new hn7; have ht7 := ht6.new hn7)
                | (go_at_call 22; refine (iequal_any _ _ (heldP O4 xo) (heldP O4 xo) _ (hh.new hn7).rd hh7.rd (by omega) (by omega)).mono ?_; rw [decide_eq_true (Eq.refl (heldP O4 xo))]; rintro e w8 ⟨rfl, hn8⟩; have r0 : w8.cell? ⟨g, 0, none⟩ = some (.slice rA m rC) := Fr.cell hn8 q0 id; have r1 : w8.cell? ⟨g, 1, none⟩ = some (.int .i64 N4) := Fr.cell hn8 q1 id; have r2 : w8.cell? ⟨wr.heap.size, 0, none⟩ = some (.int .i64 xo) := Fr.cell hn8 q2 id; have hr8 := hr7.new hn8; have ht8 := ht7.new hn8)
                | (go_at_call 12; refine (lfree_any ht8).mono ?_; rintro e w9 ⟨rfl, rfl⟩)
                | (go_at_call 25; refine (rfree_any _ O4 N4 _ hr8.own.rd (by omega)).mono ?_; rintro e w9 ⟨rfl, hn9⟩; have x0 : w9.cell? ⟨g, 0, none⟩ = some (.slice rA m rC) := Fr.cell hn9 r0 id; have x1 : w9.cell? ⟨g, 1, none⟩ = some (.int .i64 N4) := Fr.cell hn9 r1 id; have x2 : w9.cell? ⟨wr.heap.size, 0, none⟩ = some (.int .i64 xo) := Fr.cell hn9 r2 id; have hr9 := hr8.new hn9; have ht9 := ht8.new hn9)
                | (go_at_call 26; refine (lacquired_any ht9).mono ?_; rintro e w10 ⟨rfl, rfl⟩))
            have hnf := (((hn05.trans hn6).trans hn7).trans hn8).trans hn9
            go_wp2
            go_roundw
            case rel => exact ⟨k + 1, O4, N4, by omega, by go_num, hN4, hO4, ht9, hr9, hnf⟩
            case measure => simp [intOf]; omega
      · go_wp2_with fail
        refine (alive_any _).mono ?_
        rintro e w2 ⟨rfl, hn2⟩
        go_wp2
        go_ret
        exact ⟨rfl, hnew.trans hn2⟩

end Go.Proofs.Ytflalhciohdahaa
