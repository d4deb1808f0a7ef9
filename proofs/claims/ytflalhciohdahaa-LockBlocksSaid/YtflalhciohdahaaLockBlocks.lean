/- LockBlocks: the walk. -/
import Derived.Test.YtflalhciohdahaaLockPair
import Derived.Test.YtflalhciohdahaaOpenLk
import Derived.Deep.RegionHeld3
namespace Go.Proofs.Ytflalhciohdahaa
open Go.RowKit

set_option maxRecDepth 100000 in
set_option maxHeartbeats 3200000 in
theorem blocks_any (x : Value × List (Int × Int)) (o : Int) (y : Value × List Int) (w : World) (h : Rd lopE w x.1 x.2 ∧ (∀ y ∈ x.2, lopOk y) ∧ x.2.length ≤ maxLen) (_hk0 : -9223372036854775808 ≤ o) (_hk1 : o ≤ 9223372036854775807)
    (h2 : Rd (intE .i64) w y.1 y.2 ∧ (∀ z ∈ y.2, (Lit.int .i64 z).wf = true) ∧ y.2.length ≤ maxLen) :
    Calls Try.prog 4 #[x.1, .int .i64 o, y.1] w fun e w' => e = .returned (.bool true) ∧ New w w' := by
  obtain ⟨v, l⟩ := x
  obtain ⟨hv, hw, hlm⟩ := h
  obtain ⟨u, ks⟩ := y
  obtain ⟨hu, hku, hkm⟩ := h2
  dsimp only at hv hw hlm hu hku hkm ⊢
  unfold maxLen at hlm hkm
  have HW := Lib.hid hw
  have HKU := Lib.hid hku
  have HU := Lib.hid hu
  clear hw hku
  obtain ⟨A, c, rfl, hc, hcells⟩ := hv
  obtain ⟨B, d, rfl, hd, _⟩ := hu
  have HC := Lib.hid hcells
  clear hcells
  rcases Nat.lt_or_ge 100 l.length with hl | hl
  · go_enter Try.func4, Try.ntmps4
    go_wp2_with fail
    refine (alive_any _).mono ?_
    rintro e w2 ⟨rfl, hn2⟩
    go_wp2
    go_ret
    exact ⟨rfl, hn2⟩
  rcases Nat.lt_or_ge 60 ks.length with hl2 | hl2
  · have hd1 : decide (100 < (l.length : Int)) = false := decide_eq_false (by omega)
    go_enter Try.func4, Try.ntmps4
    go_wp2_with fail
    refine (alive_any _).mono ?_
    rintro e w2 ⟨rfl, hn2⟩
    go_wp2
    go_ret
    exact ⟨rfl, hn2⟩
  · clear hlm hkm
    have hd1 : decide (100 < (l.length : Int)) = false := decide_eq_false (by omega)
    have hd2 : decide (60 < (ks.length : Int)) = false := decide_eq_false (by omega)
    go_enter Try.func4, Try.ntmps4
    go_wp2_with fail
    refine (lnew_any 9 (by omega) (by omega) _).mono ?_
    rintro e w1 ⟨b, bm, rfl, ht1, hb, hm, hn1⟩
    go_wp2_with fail
    refine (rnew_any 9 (by omega) _).mono ?_
    rintro e w2 ⟨rv, rfl, hr2, hn2⟩
    have ht2 := ht1.new hn2
    have hn12 := hn1.trans hn2
    have hs12 := hn12.size
    have hs1 := hn1.size
    obtain ⟨rA, rC, hrv, hrC⟩ := hr2.form
    rw [List.length_replicate] at hrv hrC
    subst hrv
    have hr3 : RTab w.heap.size (w2.alloc (.cells #[.slice rA 9 rC, .int .i64 0] 32)) w2.heap.size (.slice rA 9 rC) (List.replicate 9 (-1)) 0 := ⟨Blk.new _ _ _, (hr2.alloc _).mono hs1⟩
    have ht3 : Tab (w2.alloc (.cells #[.slice rA 9 rC, .int .i64 0] 32)) b bm (List.replicate 9 (-1)) 0 := ht2.new ((New.refl _).alloc _)
    have hn3 := hn12.alloc (.cells #[.slice rA 9 rC, .int .i64 0] 32)
    clear ht1 ht2 hr2 hn1 hn2 hn12
    go_wp2
    generalize w2.heap.size = g at *
    go_loopw [26] (fun vi wr => ∃ (k : Nat) (O : List Int) (N : Int), k ≤ l.length ∧ vi = .int .i64 k ∧ N ≤ k ∧ O.length = 9 ∧ Tab wr b bm O N ∧ RTab w.heap.size wr g (.slice rA 9 rC) O N ∧ New w wr) (fun vi _ => l.length - (intOf vi).toNat)
    case atStart => exact ⟨0, _, 0, Nat.zero_le _, rfl, Int.le_refl _, by simp, ht3, hr3, hn3⟩
    case round =>
      obtain ⟨k, O, N, hk, rfl, hNk, hO9, ht, hr, hnew⟩ := hrel
      clear ht3 hr3 hn3
      have hNlo := ht.lo
      by_cases hkl : k < l.length
      · obtain ⟨x, hx⟩ : ∃ x, l[k]? = some x := ⟨_, List.getElem?_eq_getElem hkl⟩
        obtain ⟨bb, off, rfl, hcell⟩ := HC.out (by rintro rfl; simp at hkl)
        obtain ⟨hx1, hx2⟩ := HW.out x (List.mem_of_getElem? hx)
        obtain ⟨xo, xk⟩ := x
        have c0 : wr.cell? ⟨bb, off + k * 2, none⟩ = some (.int .i64 xo) := Fr.cell hnew (hcell k _ hx 0 _ rfl) id
        have c1 : wr.cell? ⟨bb, off + k * 2 + 1, none⟩ = some (.int .i64 xk) := Fr.cell hnew (hcell k _ hx 1 _ rfl) id
        have HX1 := Lib.hid hx1
        have HX2 := Lib.hid hx2
        clear hcell hx hx1 hx2
        have hnew1 := hnew.alloc (.cells #[.int .i64 xo, .int .i64 xk] 35)
        have hbox : Blk (wr.alloc (.cells #[.int .i64 xo, .int .i64 xk] 35)) wr.heap.size 35 #[.int .i64 xo, .int .i64 xk] := Blk.new _ _ _
        have ht1 := ht.new ((New.refl wr).alloc (.cells #[.int .i64 xo, .int .i64 xk] 35))
        have hr1 := hr.new ((New.refl wr).alloc (.cells #[.int .i64 xo, .int .i64 xk] 35))
        have hlb := ht.lt
        have hlm := ht.ltm
        go_wp2_with fail
        refine (lacquire_any ht1 (by omega) xo xk HX1.out HX2.out).mono ?_
        rintro e w3 ⟨rfl, ht3, hf3⟩
        have hr3 := hr1.tfr ht1 hf3
        have hn3 := TFr.new hnew1 hf3 (by omega) (by omega)
        have hbox3 := Fr.blk hf3 hbox (fun hs => by rcases hs with hs | hs <;> omega)
        have e0 : w3.cell? ⟨wr.heap.size, 0, none⟩ = some (.int .i64 xo) := hbox3.cell 0
        have e1 : w3.cell? ⟨wr.heap.size, 1, none⟩ = some (.int .i64 xk) := hbox3.cell 1
        clear ht1 hr1 hbox hbox3
        go_wp2_with fail
        refine (racquire_any hr3 (by omega) hNlo (by omega) xo xk).mono ?_
        rintro e w4 ⟨rfl, hr4, hf4⟩
        have ht4 := ht3.rfr hr3 hf4
        have hn4 := RFr.new hn3 hr3 (by omega) hf4
        have hN4 : N + acqN O xo xk ≤ (k + 1 : Nat) := by
          have : acqN O xo xk ≤ 1 := by unfold acqN; split <;> omega
          omega
        have hO4 : (acqO O xo xk).length = 9 := by rw [acqO_len]; exact hO9
        generalize acqO O xo xk = O4 at *
        generalize N + acqN O xo xk = N4 at *
        clear ht hr ht3 hr3
        go_wp2
        go_roundw
        case rel => exact ⟨k + 1, O4, N4, by omega, by go_num, hN4, hO4, ht4, hr4, hn4⟩
        case measure => simp [intOf]; omega
      · have g0 : wr.cell? ⟨g, 0, none⟩ = some (.slice rA 9 rC) := hr.blk.cell 0
        have g1 : wr.cell? ⟨g, 1, none⟩ = some (.int .i64 N) := hr.blk.cell 1
        have HU1 := Lib.hid (HU.out.new hnew)
        go_wp2_with fail
        go_region_held3 (fun W => W.cell? ⟨g, 0, none⟩ = some (.slice rA 9 rC) ∧ W.cell? ⟨g, 1, none⟩ = some (.int .i64 N))
          (first | exact ⟨g0, g1⟩ | exact ⟨s0, s1⟩ | exact ⟨t0, t1⟩ | exact ⟨p0, p1⟩)
          (first
            | (go_at_call 9; refine (alive_any wr.drew).mono ?_; rintro e w5 ⟨rfl, hn5'⟩; have hn5 : New wr w5 := ((New.refl wr).drew).trans hn5'; have s0 : w5.cell? ⟨g, 0, none⟩ = some (.slice rA 9 rC) := Fr.cell hn5 g0 id; have s1 : w5.cell? ⟨g, 1, none⟩ = some (.int .i64 N) := Fr.cell hn5 g1 id)
            | (go_at_call 16; refine (lblocked_any (ht.new hn5) o _ _ (HU1.out.new hn5) HKU.out (by omega)).mono ?_; rintro e w6 ⟨rfl, hn6⟩; have t0 : w6.cell? ⟨g, 0, none⟩ = some (.slice rA 9 rC) := Fr.cell hn6 s0 id; have t1 : w6.cell? ⟨g, 1, none⟩ = some (.int .i64 N) := Fr.cell hn6 s1 id)
            | (go_at_call 17; refine (rblocked_any _ _ O ks N o _ ((hr.new hn5).new hn6).own.rd (by omega) ((HU1.out.new hn5).new hn6) (by omega)).mono ?_; rintro e w7 ⟨rfl, hn7⟩; have p0 : w7.cell? ⟨g, 0, none⟩ = some (.slice rA 9 rC) := Fr.cell hn7 t0 id; have p1 : w7.cell? ⟨g, 1, none⟩ = some (.int .i64 N) := Fr.cell hn7 t1 id))
        have hnf := ((hnew.trans hn5).trans hn6).trans hn7
        go_wp2
        go_ret
        exact ⟨rfl, hnf⟩

end Go.Proofs.Ytflalhciohdahaa
