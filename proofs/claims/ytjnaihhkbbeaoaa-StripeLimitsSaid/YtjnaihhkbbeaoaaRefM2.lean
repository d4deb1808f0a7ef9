/- The reference of chapter 13: Put, Remove, Flags. -/
import Derived.Test.YtjnaihhkbbeaoaaRefM
import Derived.Test.YtjnaihhkbbeaoaaFlag
import Derived.Test.YtjnaihhkbbeaoaaTbl
namespace Go.Proofs.Ytjnaihhkbbeaoaa
open Go.RowKit

theorem Own.empty2 {α : Type} (E : Elem α) (e : TypeId) (base : Nat) (w : World) (o o' : Obj) (hb : base ≤ w.heap.size) : Own E e base (((w.alloc o).alloc o').alloc (.cells #[] e)) (.slice (some ⟨w.heap.size + 2, 0, none⟩) 0 0) [] := by
  have h := Own.empty1 E e base (w.alloc o) o' (by simp; omega)
  rwa [World.size_alloc] at h

/-- What the reference's Put makes of its list. -/
def putX (X : List MB) (x : MB) : List MB := if putC (X.map MB.m) x.m = 0 then X ++ [x] else X
theorem putX_map (X : List MB) (x : MB) : (putX X x).map MB.m = putM (X.map MB.m) x.m := by
  unfold putX putM
  split <;> simp

theorem len_eq {w : World} {x : MB} (h : Rd (intE .u8) w x.bv x.m.body) : x.n = x.m.body.length := by
  obtain ⟨A', c', he, _⟩ := h
  injection he

theorem findI_some {M : List Msg} {k : Int} : decide (0 ≤ findI M k) = (findM M k).isSome := by
  cases h : (findM M k).isSome with
  | true => exact decide_eq_true (findI_nonneg.2 h)
  | false => exact decide_eq_false (fun h2 => by rw [findI_nonneg.1 h2] at h; cases h)

set_option maxRecDepth 100000 in
set_option maxHeartbeats 6400000 in
theorem rput_any {base : Nat} {v : Value} {w : World} {X : List MB} (hv : Own mbE 34 base w v X) (hb : base ≤ w.heap.size) (hl : X.length ≤ 100000) (x : MB) (hx : Rd (intE .u8) w x.bv x.m.body) :
    Calls Try.prog 34 #[v, x.val] w fun e w' => ∃ u, e = .returned (.tuple #[u, .int .i64 (putC (X.map MB.m) x.m)]) ∧ Own mbE 34 base w' u (putX X x) ∧ New w w' := by
  obtain ⟨i0, hi, hz0, hz1, hz2⟩ := info_parts msg_info
  have hne := len_eq hx
  obtain ⟨⟨uid, fl, body⟩, A, n, c⟩ := x
  dsimp only at hne
  subst hne
  simp only [MB.val]
  have HO := Lib.hid hv
  obtain ⟨vA, vc, rfl, _⟩ := hv.form
  clear hv hx
  obtain ⟨wo, hwo⟩ : ∃ wo, wo = w.alloc (.cells #[.int .u32 uid, .int .u8 fl, .slice A body.length c] 34) := ⟨_, rfl⟩
  have hn1 : New w wo := by rw [hwo]; exact (New.refl w).alloc _
  have hs1 : wo.heap.size = w.heap.size + 1 := by rw [hwo]; simp
  have bx : Blk wo w.heap.size 34 #[.int .u32 uid, .int .u8 fl, .slice A body.length c] := by rw [hwo]; exact Blk.new _ _ _
  have hrf := rfind_any (HO.out.rd.new hn1) hl uid
  have HWO := Lib.hid hwo
  have HRF := Lib.hid hrf
  clear hrf
  have hpc : putC (X.map MB.m) ⟨uid, fl, body⟩ = if uid = 0 ∨ 31 < fl ∨ 65536 < body.length then 2 else if (findM (X.map MB.m) uid).isSome then 8 else 0 := rfl
  by_cases hc : uid = 0 ∨ 31 < fl ∨ 65536 < body.length
  · rw [if_pos hc] at hpc
    have hpx : putX X ⟨⟨uid, fl, body⟩, A, body.length, c⟩ = X := by unfold putX; rw [hpc]; rfl
    rw [hpc, hpx]
    clear hpc hpx
    by_cases h0 : uid = 0
    · have d0 : (uid == 0) = true := by simp [h0]
      clear hc h0
      go_enter Try.func34, Try.ntmps34
      go_wp2
      go_ret2
      exact ⟨_, rfl, HO.out.new (HWO.out ▸ hn1), HWO.out ▸ hn1⟩
    · have d0 : (uid == 0) = false := by simp [h0]
      by_cases h1 : 31 < fl
      · have d1 : decide (31 < fl) = true := decide_eq_true h1
        clear hc h0 h1
        go_enter Try.func34, Try.ntmps34
        go_wp2
        go_ret2
        exact ⟨_, rfl, HO.out.new (HWO.out ▸ hn1), HWO.out ▸ hn1⟩
      · have d1 : decide (31 < fl) = false := decide_eq_false h1
        have d2 : decide ((65536 : Int) < body.length) = true := decide_eq_true (by omega)
        clear hc h0 h1
        go_enter Try.func34, Try.ntmps34
        go_wp2
        go_ret2
        exact ⟨_, rfl, HO.out.new (HWO.out ▸ hn1), HWO.out ▸ hn1⟩
  · have d0 : (uid == 0) = false := by simp; exact fun e => hc (.inl e)
    have d1 : decide (31 < fl) = false := decide_eq_false fun e => hc (.inr (.inl e))
    have d2 : decide ((65536 : Int) < body.length) = false := decide_eq_false fun e => hc (.inr (.inr (by omega)))
    rw [if_neg hc] at hpc
    cases hfs : (findM (X.map MB.m) uid).isSome with
    | true =>
      rw [hfs] at hpc
      have hpc : putC (X.map MB.m) ⟨uid, fl, body⟩ = 8 := hpc
      have hpx : putX X ⟨⟨uid, fl, body⟩, A, body.length, c⟩ = X := by unfold putX; rw [hpc]; rfl
      rw [hpc, hpx]
      have hfi := (findI_some (M := X.map MB.m) (k := uid)).trans hfs
      clear hpc hpx hfs hc
      generalize findI (X.map MB.m) uid = r at *
      go_enter Try.func34, Try.ntmps34
      go_wp2_with fail
      rw [← HWO.out]
      refine HRF.out.mono ?_
      rintro e w2 ⟨rfl, hn2⟩
      go_wp2
      go_ret2
      exact ⟨_, rfl, HO.out.new (hn1.trans hn2), hn1.trans hn2⟩
    | false =>
      rw [hfs] at hpc
      have hpc : putC (X.map MB.m) ⟨uid, fl, body⟩ = 0 := hpc
      have hpx : putX X ⟨⟨uid, fl, body⟩, A, body.length, c⟩ = X ++ [⟨⟨uid, fl, body⟩, A, body.length, c⟩] := by unfold putX; rw [hpc, if_pos rfl]
      rw [hpc, hpx]
      have hfi := (findI_some (M := X.map MB.m) (k := uid)).trans hfs
      clear hpc hpx hfs hc
      generalize findI (X.map MB.m) uid = r at *
      go_enter Try.func34, Try.ntmps34
      go_wp2_with fail
      rw [← HWO.out]
      refine HRF.out.mono ?_
      rintro e w2 ⟨rfl, hn2⟩
      have bx2 := hn2.blk bx
      have x0 : w2.cell? ⟨w.heap.size, 0, none⟩ = some (.int .u32 uid) := bx2.cell 0
      have x1 : w2.cell? ⟨w.heap.size, 1, none⟩ = some (.int .u8 fl) := bx2.cell 1
      have x2 : w2.cell? ⟨w.heap.size, 2, none⟩ = some (.slice A body.length c) := bx2.cell 2
      have hn02 := hn1.trans hn2
      have HRD := Lib.hid (HO.out.rd.new hn02)
      have hs2 := hn02.size
      have HWN := Lib.hid hn02
      clear hn1 hn2 bx hs1 HWO hwo hn02
      go_wp2_with fail
      obtain ⟨wr, hwr⟩ : ∃ wr, wr = w2 := ⟨_, rfl⟩
      obtain ⟨s2, hs2'⟩ : ∃ s2, X ++ [(⟨⟨uid, fl, body⟩, A, body.length, c⟩ : MB)] = s2 := ⟨_, rfl⟩
      have HS2 := Lib.hid hs2'
      clear hs2' hwr
      go_region_held3 (fun w' => w'.cell? ⟨w.heap.size, 0, none⟩ = some (.int .u32 uid) ∧ w'.cell? ⟨w.heap.size, 1, none⟩ = some (.int .u8 fl) ∧ w'.cell? ⟨w.heap.size, 2, none⟩ = some (.slice A body.length c)) (first | go_keep | (refine ⟨?_, ?_, ?_⟩ <;> assumption))
        ((first
          | (refine step_append_new (E := mbE) (l := []) (v := .slice (some ⟨w2.heap.size, 0, none⟩) 0 0) w2 (by rfl) (.tmp 27) (.tmp 28) 47 (by rfl) Try.underlying47 hi hz0 hz1 hz2 rfl (by rfl) (by rfl) X ?own ?rd (by simp; unfold maxLen; omega) (by simp; omega) ?new X rfl ?_
             case own => repeat' first | exact Own.empty _ _ _ _ (by simp) | exact Own.empty1 _ _ _ _ _ (by simp) | apply Own.alloc
             case new => repeat' first | assumption | exact New.refl _ | apply Fr.alloc | apply Fr.drewN | apply Fr.drew
             case rd => exact Rd.new HRD.out (by repeat' first | assumption | exact New.refl _ | apply Fr.alloc | apply Fr.drewN | apply Fr.drew)
             intro A1 c1 w3 h3 hn3 hf3
             have y0 : w3.cell? ⟨w.heap.size, 0, none⟩ = some (.int .u32 uid) := Fr.cell hn3 x0 id
             have y1 : w3.cell? ⟨w.heap.size, 1, none⟩ = some (.int .u8 fl) := Fr.cell hn3 x1 id
             have y2 : w3.cell? ⟨w.heap.size, 2, none⟩ = some (.slice A body.length c) := Fr.cell hn3 x2 id
             have hb1 := Lib.hid (Fr.blk hf3.out (Blk.new1 (w2.drew) _ 34 #[.int .u32 uid, .int .u8 fl, .slice A body.length c]) (by simp [Value.ownBlock])))
          | (refine step_append_new (E := mbE) (l := []) (v := .slice (some ⟨w2.heap.size, 0, none⟩) 0 0) w2 (by rfl) (.tmp 27) (.tmp 28) 47 (by rfl) Try.underlying47 hi hz0 hz1 hz2 rfl (by rfl) (by rfl) X ?own ?rd (by simp; unfold maxLen; omega) (by simp; omega) ?new X rfl ?_
             case own => repeat' first | exact Own.empty _ _ _ _ (by simp) | exact Own.empty1 _ _ _ _ _ (by simp) | apply Own.alloc
             case new => repeat' first | assumption | exact New.refl _ | apply Fr.alloc | apply Fr.drewN | apply Fr.drew
             case rd => exact Rd.new HRD.out (by repeat' first | assumption | exact New.refl _ | apply Fr.alloc | apply Fr.drewN | apply Fr.drew)
             intro A1 c1 w3 h3 hn3 hf3
             have y0 : w3.cell? ⟨w.heap.size, 0, none⟩ = some (.int .u32 uid) := Fr.cell hn3 x0 id
             have y1 : w3.cell? ⟨w.heap.size, 1, none⟩ = some (.int .u8 fl) := Fr.cell hn3 x1 id
             have y2 : w3.cell? ⟨w.heap.size, 2, none⟩ = some (.slice A body.length c) := Fr.cell hn3 x2 id)
          | (refine step_append_new (E := mbE) (l := []) (v := .slice (some ⟨w2.heap.size + 1, 0, none⟩) 0 0) w2 (by rfl) (.tmp 27) (.tmp 28) 47 (by rfl) Try.underlying47 hi hz0 hz1 hz2 rfl (by rfl) (by rfl) X ?own ?rd (by simp; unfold maxLen; omega) (by simp; omega) ?new X rfl ?_
             case own => repeat' first | exact Own.empty _ _ _ _ (by simp) | exact Own.empty1 _ _ _ _ _ (by simp) | apply Own.alloc
             case new => repeat' first | assumption | exact New.refl _ | apply Fr.alloc | apply Fr.drewN | apply Fr.drew
             case rd => exact Rd.new HRD.out (by repeat' first | assumption | exact New.refl _ | apply Fr.alloc | apply Fr.drewN | apply Fr.drew)
             intro A1 c1 w3 h3 hn3 hf3
             have y0 : w3.cell? ⟨w.heap.size, 0, none⟩ = some (.int .u32 uid) := Fr.cell hn3 x0 id
             have y1 : w3.cell? ⟨w.heap.size, 1, none⟩ = some (.int .u8 fl) := Fr.cell hn3 x1 id
             have y2 : w3.cell? ⟨w.heap.size, 2, none⟩ = some (.slice A body.length c) := Fr.cell hn3 x2 id
             have hb1 := Lib.hid (Fr.blk hf3.out ((Blk.new (w2.drew) 34 #[.int .u32 uid, .int .u8 fl, .slice A body.length c]).alloc _) (by simp [Value.ownBlock])))
          | (refine step_append_new (E := mbE) (l := X) w2 (by rfl) (.tmp 29) (.tmp 31) 47 (by rfl) Try.underlying47 hi hz0 hz1 hz2 rfl (by rfl) (by rfl) [⟨⟨uid, fl, body⟩, A, body.length, c⟩] ?own ?rd (by simp; unfold maxLen; omega) (by simp; omega) ?new s2 HS2.out ?_
             case own => repeat' first | exact h3 | apply Own.alloc
             case new => repeat' first | assumption | exact New.refl _ | apply Fr.alloc | apply Fr.drewN | apply Fr.drew
             case rd => first | exact rd_block mbE hb1.out [⟨⟨uid, fl, body⟩, A, body.length, c⟩] rfl | exact rd_block mbE (Blk.new w3 34 #[.int .u32 uid, .int .u8 fl, .slice A body.length c]) [⟨⟨uid, fl, body⟩, A, body.length, c⟩] rfl
             intro A2 c2 w4 h4 hn4 hf4
             have z0 : w4.cell? ⟨w.heap.size, 0, none⟩ = some (.int .u32 uid) := Fr.cell hn4 x0 id
             have z1 : w4.cell? ⟨w.heap.size, 1, none⟩ = some (.int .u8 fl) := Fr.cell hn4 x1 id
             have z2 : w4.cell? ⟨w.heap.size, 2, none⟩ = some (.slice A body.length c) := Fr.cell hn4 x2 id)
          | fail))
      all_goals go_wp2
      all_goals go_ret2
      all_goals exact ⟨_, rfl, (by rw [HS2.out]; exact h4.mono (by omega)), HWN.out.trans hn4⟩

/-- What the reference's Remove hands back. -/
theorem filterX_step {X : List MB} {k : Int} {j : Nat} {x : MB} (hx : X[j]? = some x) : remX (X.take (j + 1)) k = remX (X.take j) k ++ (if x.m.uid != k then [x] else []) := by
  unfold remX
  rw [filter_snoc _ hx]
  by_cases h : x.m.uid = k <;> simp [h]

set_option maxRecDepth 100000 in
set_option maxHeartbeats 3200000 in
theorem rrem_any {v : Value} {w : World} {X : List MB} (hv : Rd mbE w v X) (hl : X.length ≤ 100000) (k : Int) :
    Calls Try.prog 36 #[v, .int .u32 k] w fun e w' => ∃ u, e = .returned u ∧ Own mbE 34 w.heap.size w' u (remX X k) ∧ New w w' := by
  obtain ⟨i0, hi, hz0, hz1, hz2⟩ := info_parts msg_info
  obtain ⟨A, c, rfl, hlc, hcells⟩ := hv
  have HC := Lib.hid hcells
  clear hcells
  go_enter Try.func36, Try.ntmps36
  go_wp2
  go_loopw [5, 6] (fun vo vi wr => ∃ j : Nat, vi = .int .i64 j ∧ j ≤ X.length ∧ Own mbE 34 w.heap.size wr vo (remX (X.take j) k) ∧ New w wr) (fun _ vi _ => X.length - (intOf vi).toNat)
  case atStart => exact ⟨0, rfl, Nat.zero_le _, Own.nil _ _ _ _, New.refl _⟩
  case round =>
    obtain ⟨j, rfl, hj, hown, hnew⟩ := hrel
    have hfl : (remX (X.take j) k).length ≤ 100000 := Nat.le_trans (List.length_filter_le _ _) (by rw [List.length_take]; omega)
    have hsz := hnew.size
    by_cases hlt : j < X.length
    · have hd : decide ((j : Int) < X.length) = true := decide_eq_true (by omega)
      obtain ⟨x, hx⟩ : ∃ x, X[j]? = some x := ⟨_, List.getElem?_eq_getElem hlt⟩
      obtain ⟨b, off, rfl, hcell⟩ := HC.out (by rintro rfl; simp at hlt)
      have HTK := Lib.hid (filterX_step (k := k) hx)
      obtain ⟨⟨uid, fl, body⟩, xA, xn, xc⟩ := x
      have c0 : wr.cell? ⟨b, off + j * 3, none⟩ = some (.int .u32 uid) := Fr.cell hnew (hcell j _ hx 0 _ rfl) id
      have c1 : wr.cell? ⟨b, off + j * 3 + 1, none⟩ = some (.int .u8 fl) := Fr.cell hnew (hcell j _ hx 1 _ rfl) id
      have c2 : wr.cell? ⟨b, off + j * 3 + 2, none⟩ = some (.slice xA xn xc) := Fr.cell hnew (hcell j _ hx 2 _ rfl) id
      have hkI : (j : Int) < X.length := by omega
      have hw : IntKind.i64.wrap ((j : Int) + 1) = (j : Int) + 1 := IntWalk.i64_in _ (by omega)
      dsimp only at HTK
      obtain ⟨m, hm⟩ : ∃ m, remX (X.take j) k = m := ⟨_, rfl⟩
      rw [hm] at hown hfl HTK
      clear hcell hx hm
      obtain ⟨A0, N0, C0, rfl⟩ := own_shape hown
      cases hq : (uid != k)
      · rw [hq] at HTK
        have HQ := Lib.hid hq
        go_wp2
        go_roundw
        case rel => exact ⟨j + 1, by go_num, by omega, by rw [HTK.out]; simpa using hown, hnew⟩
        case measure => simp [intOf]; omega
      · rw [hq] at HTK
        go_wp2_with (at_builtin; refine wpList_push (E := mbE) rfl _ _ _ rfl Try.underlying47 hi hz0 hz1 hz2 rfl (hown.alloc _) rfl ⟨⟨uid, fl, body⟩, xA, xn, xc⟩ wr.heap.size (Blk.new _ _ _) 1 rfl (by unfold maxLen; omega) (by omega) (by simp; omega) ?_; intro v2 w2 hv2 hf2 hl2)
        go_roundw
        case rel => exact ⟨j + 1, by go_num, by omega, by rw [HTK.out]; simpa using hv2, New.append (hnew.alloc _) (hown.alloc _) hf2⟩
        case measure => simp [intOf]; omega
    · have hd : decide ((j : Int) < X.length) = false := decide_eq_false (by omega)
      rw [List.take_of_length_le (by omega)] at hown
      obtain ⟨A0, N0, C0, rfl⟩ := own_shape hown
      have HO := Lib.hid hown
      clear hown hfl
      go_wp2
      go_ret
      exact ⟨_, rfl, HO.out, hnew⟩

end Go.Proofs.Ytjnaihhkbbeaoaa
