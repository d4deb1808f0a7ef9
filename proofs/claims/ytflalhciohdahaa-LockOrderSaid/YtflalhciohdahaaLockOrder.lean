/- LockOrder: the walk. -/
import Derived.Test.YtflalhciohdahaaLockPair
import Derived.Test.YtflalhciohdahaaOpenLk
namespace Go.Proofs.Ytflalhciohdahaa
open Go.RowKit

/-- Among the first j locks the last one that is held is t, or there is none. -/
def TopAt (O : List Int) (j : Nat) (t : Int) : Prop := (t = -1 ∨ ∃ x, O[t.toNat]? = some x ∧ 0 ≤ x) ∧ ∀ (i : Nat) (x : Int), t < i → i < j → O[i]? = some x → x < 0

theorem TopAt.start (O : List Int) : TopAt O 0 (-1) := ⟨.inl rfl, fun i x _ h => by omega⟩
theorem TopAt.hit {O : List Int} {j : Nat} {t x : Int} (_h : TopAt O j t) (hx : O[j]? = some x) (h0 : 0 ≤ x) : TopAt O (j + 1) j :=
  ⟨.inr ⟨x, by rw [Int.toNat_natCast]; exact hx, h0⟩, fun i y h1 h2 => by omega⟩
theorem TopAt.miss {O : List Int} {j : Nat} {t x : Int} (h : TopAt O j t) (hx : O[j]? = some x) (h0 : x < 0) : TopAt O (j + 1) t :=
  ⟨h.1, fun i y h1 h2 hy => by
    rcases Nat.lt_or_ge i j with h3 | h3
    · exact h.2 i y h1 h3 hy
    · obtain rfl : i = j := by omega
      rw [hx] at hy
      injection hy with hy
      omega⟩
theorem TopAt.owner {O : List Int} {j t : Nat} {o : Int} (h : TopAt O j t) (_ht : t < j) (ho : O[t]? = some o) : 0 ≤ o := by
  rcases h.1 with h1 | ⟨x, hx, h0⟩
  · omega
  · rw [Int.toNat_natCast, ho] at hx
    injection hx with hx
    omega
theorem TopAt.free {O : List Int} {t : Nat} {nx : Int} (h : TopAt O 9 t) (hO : O.length = 9) (h0 : (t : Int) < nx) (h9 : nx < 9) : ownerP O nx < 0 := by
  obtain ⟨i, rfl⟩ : ∃ i : Nat, nx = i := ⟨nx.toNat, by omega⟩
  have hi : i < O.length := by omega
  rw [ownerP_nat, List.getD_eq_getElem?_getD, List.getElem?_eq_getElem hi]
  exact h.2 i _ h0 (by omega) (List.getElem?_eq_getElem hi)
theorem TopAt.acq {O : List Int} {t : Nat} {o nx : Int} (h : TopAt O 9 t) (_hO : Ows O) (ho : O[t]? = some o) (ht : t < 9) (hO9 : O.length = 9) (h0 : (t : Int) < nx) (h9 : nx < 9) : acqP O o nx = 0 := by
  have ho0 := h.owner ht ho
  have hf := h.free hO9 h0 h9
  unfold acqP
  rw [if_neg (by omega), if_neg (by omega), if_neg, if_neg (by omega)]
  intro hany
  obtain ⟨x, hx, hlt⟩ := List.any_eq_true.1 hany
  have hxr := heldP_range hx
  have hxo := (mem_heldP ho0).1 hx
  have hlt' := of_decide_eq_true hlt
  have := h.free hO9 (nx := x) (by omega) (by omega)
  omega
theorem TopAt.blocked {O : List Int} {t : Nat} {o nx : Int} (h : TopAt O 9 t) (hO9 : O.length = 9) (h0 : (t : Int) < nx) (h9 : nx < 9) : blockedP O o [nx] = false := by
  have hf := h.free hO9 h0 h9
  unfold blockedP
  rw [List.find?_cons_of_pos (by unfold notMine; simp [hf])]
  show decide (0 ≤ ownerP O nx) = false
  simp; omega

set_option maxRecDepth 100000 in
set_option maxHeartbeats 3200000 in
theorem order_any (x : Value × List (Int × Int)) (kk : Int) (w : World) (h : Rd lopE w x.1 x.2 ∧ (∀ y ∈ x.2, lopOk y) ∧ x.2.length ≤ maxLen) (hk0 : 0 ≤ kk) (hk1 : kk ≤ 255) :
    Calls Try.prog 5 #[x.1, .int .u8 kk] w fun e w' => e = .returned (.bool true) ∧ New w w' := by
  obtain ⟨v, l⟩ := x
  obtain ⟨hv, hw, hlm⟩ := h
  dsimp only at hv hw hlm ⊢
  unfold maxLen at hlm
  have HW := Lib.hid hw
  clear hw
  obtain ⟨A, c, rfl, hc, hcells⟩ := hv
  have HC := Lib.hid hcells
  clear hcells
  rcases Nat.lt_or_ge 100 l.length with hl | hl
  · go_enter Try.func5, Try.ntmps5
    go_wp2_with fail
    refine (alive_any _).mono ?_
    rintro e w2 ⟨rfl, hn2⟩
    go_wp2
    go_ret
    exact ⟨rfl, hn2⟩
  · clear hlm
    go_enter Try.func5, Try.ntmps5
    go_wp2_with fail
    refine (lnew_any 9 (by omega) (by omega) _).mono ?_
    rintro e w1 ⟨b, bm, rfl, ht1, hb, hm, hn1⟩
    go_wp2_with fail
    refine (rnew_any 9 (by omega) _).mono ?_
    rintro e w2 ⟨rv, rfl, hr2, hn2⟩
    have ht2 := ht1.new hn2
    have hn12 := hn1.trans hn2
    have hs12 := hn12.size
    have hs1 := hn1.size
    obtain ⟨rA, rC, hrv, hrC⟩ := hr2.form
    rw [List.length_replicate] at hrv hrC
    subst hrv
    have hr3 : RTab w.heap.size (w2.alloc (.cells #[.slice rA 9 rC, .int .i64 0] 32)) w2.heap.size (.slice rA 9 rC) (List.replicate 9 (-1)) 0 := ⟨Blk.new _ _ _, (hr2.alloc _).mono hs1⟩
    have ht3 : Tab (w2.alloc (.cells #[.slice rA 9 rC, .int .i64 0] 32)) b bm (List.replicate 9 (-1)) 0 := ht2.new ((New.refl _).alloc _)
    have hn3 := hn12.alloc (.cells #[.slice rA 9 rC, .int .i64 0] 32)
    clear ht1 ht2 hr2 hn1 hn2 hn12
    go_wp2
    generalize w2.heap.size = g at *
    go_loopw [23] (fun vi wr => ∃ (k : Nat) (O : List Int) (N : Int), k ≤ l.length ∧ vi = .int .i64 k ∧ N ≤ k ∧ O.length = 9 ∧ Tab wr b bm O N ∧ RTab w.heap.size wr g (.slice rA 9 rC) O N ∧ New w wr) (fun vi _ => l.length - (intOf vi).toNat)
    case atStart => exact ⟨0, _, 0, Nat.zero_le _, rfl, Int.le_refl _, by simp, ht3, hr3, hn3⟩
    case round =>
      obtain ⟨k, O, N, hk, rfl, hNk, hO9, ht, hr, hnew⟩ := hrel
      clear ht3 hr3 hn3
      have hNlo := ht.lo
      by_cases hkl : k < l.length
      · obtain ⟨x, hx⟩ : ∃ x, l[k]? = some x := ⟨_, List.getElem?_eq_getElem hkl⟩
        obtain ⟨bb, off, rfl, hcell⟩ := HC.out (by rintro rfl; simp at hkl)
        obtain ⟨hx1, hx2⟩ := HW.out x (List.mem_of_getElem? hx)
        obtain ⟨xo, xk⟩ := x
        have c0 : wr.cell? ⟨bb, off + k * 2, none⟩ = some (.int .i64 xo) := Fr.cell hnew (hcell k _ hx 0 _ rfl) id
        have c1 : wr.cell? ⟨bb, off + k * 2 + 1, none⟩ = some (.int .i64 xk) := Fr.cell hnew (hcell k _ hx 1 _ rfl) id
        have HX1 := Lib.hid hx1
        have HX2 := Lib.hid hx2
        clear hcell hx hx1 hx2
        have hnew1 := hnew.alloc (.cells #[.int .i64 xo, .int .i64 xk] 35)
        have hbox : Blk (wr.alloc (.cells #[.int .i64 xo, .int .i64 xk] 35)) wr.heap.size 35 #[.int .i64 xo, .int .i64 xk] := Blk.new _ _ _
        have ht1 := ht.new ((New.refl wr).alloc (.cells #[.int .i64 xo, .int .i64 xk] 35))
        have hr1 := hr.new ((New.refl wr).alloc (.cells #[.int .i64 xo, .int .i64 xk] 35))
        have hlb := ht.lt
        have hlm := ht.ltm
        go_wp2_with fail
        refine (lacquire_any ht1 (by omega) xo xk HX1.out HX2.out).mono ?_
        rintro e w3 ⟨rfl, ht3, hf3⟩
        have hr3 := hr1.tfr ht1 hf3
        have hn3 := TFr.new hnew1 hf3 (by omega) (by omega)
        have hbox3 := Fr.blk hf3 hbox (fun hs => by rcases hs with hs | hs <;> omega)
        have e0 : w3.cell? ⟨wr.heap.size, 0, none⟩ = some (.int .i64 xo) := hbox3.cell 0
        have e1 : w3.cell? ⟨wr.heap.size, 1, none⟩ = some (.int .i64 xk) := hbox3.cell 1
        clear ht1 hr1 hbox hbox3
        go_wp2_with fail
        refine (racquire_any hr3 (by omega) hNlo (by omega) xo xk).mono ?_
        rintro e w4 ⟨rfl, hr4, hf4⟩
        have ht4 := ht3.rfr hr3 hf4
        have hn4 := RFr.new hn3 hr3 (by omega) hf4
        have hN4 : N + acqN O xo xk ≤ (k + 1 : Nat) := by
          have : acqN O xo xk ≤ 1 := by unfold acqN; split <;> omega
          omega
        have hO4 : (acqO O xo xk).length = 9 := by rw [acqO_len]; exact hO9
        generalize acqO O xo xk = O4 at *
        generalize N + acqN O xo xk = N4 at *
        clear ht hr ht3 hr3
        go_wp2
        go_roundw
        case rel => exact ⟨k + 1, O4, N4, by omega, by go_num, hN4, hO4, ht4, hr4, hn4⟩
        case measure => simp [intOf]; omega
      · have g0 : wr.cell? ⟨g, 0, none⟩ = some (.slice rA 9 rC) := hr.blk.cell 0
        obtain ⟨gg, hgg⟩ := hr.own.some1 (by omega)
        subst hgg
        have hcell : ∀ i x, O[i]? = some x → wr.cell? ⟨gg, i, none⟩ = some (.int .i64 x) := fun i x hx => hr.own.icell hx
        have HCL := Lib.hid hcell
        have HT := Lib.hid ht
        clear hcell ht
        go_wp2
        go_loop [9, 42] (fun vt vi => ∃ (j : Nat) (t : Int), j ≤ 9 ∧ vi = .int .i64 j ∧ vt = .int .i64 t ∧ -1 ≤ t ∧ t < j ∧ Hid (TopAt O j t)) (fun _ vi => 9 - (intOf vi).toNat)
        case atStart => exact ⟨0, -1, by omega, rfl, rfl, by omega, by omega, TopAt.start O⟩
        case round =>
          obtain ⟨j, t, hj9, rfl, rfl, htl, htj, HTOP⟩ := hrel
          by_cases hj : j < 9
          · obtain ⟨x, hx⟩ : ∃ x, O[j]? = some x := ⟨_, List.getElem?_eq_getElem (by omega)⟩
            have e0 : wr.cell? ⟨gg, j, none⟩ = some (.int .i64 x) := HCL.out j x hx
            have HX := Lib.hid hx
            clear hx
            by_cases hx0 : 0 ≤ x
            · go_wp2
              go_round
              case rel => exact ⟨j + 1, j, by omega, by go_num, rfl, by omega, by omega, HTOP.out.hit HX.out hx0⟩
              case measure => simp [intOf]; omega
            · go_wp2
              go_round
              case rel => exact ⟨j + 1, t, by omega, by go_num, rfl, by omega, by omega, HTOP.out.miss HX.out (by omega)⟩
              case measure => simp [intOf]; omega
          · obtain rfl : j = 9 := by omega
            by_cases ht0 : t < 0
            · go_wp2_with fail
              refine (alive_any _).mono ?_
              rintro e w5 ⟨rfl, hn5⟩
              go_wp2
              go_ret
              exact ⟨rfl, hnew.trans hn5⟩
            · have ht0' : decide (t < 0) = false := decide_eq_false ht0
              by_cases ht8 : t = 8
              · subst ht8
                go_wp2_with fail
                refine (alive_any _).mono ?_
                rintro e w5 ⟨rfl, hn5⟩
                go_wp2
                go_ret
                exact ⟨rfl, hnew.trans hn5⟩
              · have ht8' : (t == 8) = false := by simp [ht8]
                obtain ⟨tn, rfl⟩ : ∃ tn : Nat, t = tn := ⟨t.toNat, by omega⟩
                obtain ⟨o, ho⟩ : ∃ o, O[tn]? = some o := ⟨_, List.getElem?_eq_getElem (by omega)⟩
                obtain ⟨nx, hnx⟩ : ∃ nx : Int, nx = (tn : Int) + 1 + kk % (8 - tn) := ⟨_, rfl⟩
                have hm0 : 0 ≤ kk % (8 - (tn : Int)) := Int.emod_nonneg _ (by omega)
                have hm1 : kk % (8 - (tn : Int)) < 8 - tn := Int.emod_lt_of_pos _ (by omega)
                have hnx0 : (tn : Int) < nx := by omega
                have hnx9 : nx < 9 := by omega
                have hooo := HTOP.out.owner (by omega) ho
                have hacc := HTOP.out.acq HT.out.ows ho (by omega) hO9 hnx0 hnx9
                have hblk := HTOP.out.blocked hO9 (o := o) hnx0 hnx9
                have e0 : wr.cell? ⟨gg, tn, none⟩ = some (.int .i64 o) := HCL.out tn o ho
                have hoI : okI o := HT.out.ok o (List.mem_of_getElem? ho)
                have HACC := Lib.hid hacc
                have HBLK := Lib.hid hblk
                have HNX := Lib.hid hnx
                have HOI := Lib.hid hoI
                clear ho hacc hblk hoI hnx
                go_wp2_with fail
                refine (alive_any _).mono ?_
                rintro e w5 ⟨rfl, hn5⟩
                have hr5 := hr.new hn5
                have HT5 := Lib.hid (HT.out.new hn5)
                have g5 : w5.cell? ⟨g, 0, none⟩ = some (.slice (some ⟨gg, 0, none⟩) 9 rC) := hr5.blk.cell 0
                have e5 : w5.cell? ⟨gg, tn, none⟩ = some (.int .i64 o) := Fr.cell hn5 e0 id
                have hbx : Blk (w5.alloc (.cells #[.int .i64 ((tn : Int) + 1 + kk % (8 - (tn : Int)))] 3)) w5.heap.size 3 #[.int .i64 ((tn : Int) + 1 + kk % (8 - (tn : Int)))] := Blk.new _ _ _
                have hbx' := rd_block (intE .i64) hbx [(tn : Int) + 1 + kk % (8 - (tn : Int))] rfl
                have hok : ∀ x ∈ [(tn : Int) + 1 + kk % (8 - (tn : Int))], okI x := fun x hx => by rw [List.mem_singleton.1 hx]; exact WalkArith.wf_i64 (by omega)
                have hcall := lblocked_any (HT5.out.new ((New.refl w5).alloc (.cells #[.int .i64 ((tn : Int) + 1 + kk % (8 - (tn : Int)))] 3))) o _ _ hbx' hok (by simp)
                rw [← HNX.out, HBLK.out, HNX.out] at hcall
                have HCALL := Lib.hid hcall
                have hn55 := (hnew.trans hn5).alloc (.cells #[.int .i64 ((tn : Int) + 1 + kk % (8 - (tn : Int)))] 3)
                have hr55 := hr5.new ((New.refl w5).alloc (.cells #[.int .i64 ((tn : Int) + 1 + kk % (8 - (tn : Int)))] 3))
                clear hbx' hok hcall
                go_wp2_with fail
                refine HCALL.out.mono ?_
                rintro e w6 ⟨rfl, hn6⟩
                have hr6 := hr55.new hn6
                have g6 : w6.cell? ⟨g, 0, none⟩ = some (.slice (some ⟨gg, 0, none⟩) 9 rC) := hr6.blk.cell 0
                have e6 : w6.cell? ⟨gg, tn, none⟩ = some (.int .i64 o) := Fr.cell hn6 (Fr.cell ((New.refl w5).alloc (.cells #[.int .i64 ((tn : Int) + 1 + kk % (8 - (tn : Int)))] 3)) e5 id) id
                have hcall := lacquire_any ((HT5.out.new ((New.refl w5).alloc (.cells #[.int .i64 ((tn : Int) + 1 + kk % (8 - (tn : Int)))] 3))).new hn6) (by omega) o ((tn : Int) + 1 + kk % (8 - (tn : Int))) HOI.out (WalkArith.wf_i64 (by omega))
                rw [← HNX.out, HACC.out, HNX.out] at hcall
                have HCALL2 := Lib.hid hcall
                clear hcall
                go_wp2_with fail
                refine HCALL2.out.mono ?_
                rintro e w7 ⟨rfl, _, hf7⟩
                have hn7 := TFr.new (hn55.trans hn6) hf7 hb hm
                go_wp2
                go_ret
                exact ⟨rfl, hn7⟩

end Go.Proofs.Ytflalhciohdahaa
