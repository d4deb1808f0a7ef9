/- Part 14 of the proof of StripeAgrees: RefM2, RefM3, RefM4, StFew. -/
import Derived.Test.YtjnaihhkbbeaoaaGStripeAgreesAM
import Derived.Laws.BytesArg

section
/- The reference of chapter 13: Put, Remove, Flags. -/
namespace Go.Proofs.Ytjnaihhkbbeaoaa
open Go.RowKit

theorem Own.empty2 {α : Type} (E : Elem α) (e : TypeId) (base : Nat) (w : World) (o o' : Obj) (hb : base ≤ w.heap.size) : Own E e base (((w.alloc o).alloc o').alloc (.cells #[] e)) (.slice (some ⟨w.heap.size + 2, 0, none⟩) 0 0) [] := by
  have h := Own.empty1 E e base (w.alloc o) o' (by simp; omega)
  rwa [World.size_alloc] at h

/-- What the reference's Put makes of its list. -/
def putX (X : List MB) (x : MB) : List MB := if putC (X.map MB.m) x.m = 0 then X ++ [x] else X
theorem putX_map (X : List MB) (x : MB) : (putX X x).map MB.m = putM (X.map MB.m) x.m := by
  unfold putX putM
  split <;> simp

theorem len_eq {w : World} {x : MB} (h : Rd (intE .u8) w x.bv x.m.body) : x.n = x.m.body.length := by
  obtain ⟨A', c', he, _⟩ := h
  injection he

theorem findI_some {M : List Msg} {k : Int} : decide (0 ≤ findI M k) = (findM M k).isSome := by
  cases h : (findM M k).isSome with
  | true => exact decide_eq_true (findI_nonneg.2 h)
  | false => exact decide_eq_false (fun h2 => by rw [findI_nonneg.1 h2] at h; cases h)

set_option maxRecDepth 100000 in
set_option maxHeartbeats 6400000 in
theorem rput_any {base : Nat} {v : Value} {w : World} {X : List MB} (hv : Own mbE 34 base w v X) (hb : base ≤ w.heap.size) (hl : X.length ≤ 100000) (x : MB) (hx : Rd (intE .u8) w x.bv x.m.body) :
    Calls Try.prog 34 #[v, x.val] w fun e w' => ∃ u, e = .returned (.tuple #[u, .int .i64 (putC (X.map MB.m) x.m)]) ∧ Own mbE 34 base w' u (putX X x) ∧ New w w' := by
  obtain ⟨i0, hi, hz0, hz1, hz2⟩ := info_parts msg_info
  have hne := len_eq hx
  obtain ⟨⟨uid, fl, body⟩, A, n, c⟩ := x
  dsimp only at hne
  subst hne
  simp only [MB.val]
  have HO := Lib.hid hv
  obtain ⟨vA, vc, rfl, _⟩ := hv.form
  clear hv hx
  obtain ⟨wo, hwo⟩ : ∃ wo, wo = w.alloc (.cells #[.int .u32 uid, .int .u8 fl, .slice A body.length c] 34) := ⟨_, rfl⟩
  have hn1 : New w wo := by rw [hwo]; exact (New.refl w).alloc _
  have hs1 : wo.heap.size = w.heap.size + 1 := by rw [hwo]; simp
  have bx : Blk wo w.heap.size 34 #[.int .u32 uid, .int .u8 fl, .slice A body.length c] := by rw [hwo]; exact Blk.new _ _ _
  have hrf := rfind_any (HO.out.rd.new hn1) hl uid
  have HWO := Lib.hid hwo
  have HRF := Lib.hid hrf
  clear hrf
  have hpc : putC (X.map MB.m) ⟨uid, fl, body⟩ = if uid = 0 ∨ 31 < fl ∨ 65536 < body.length then 2 else if (findM (X.map MB.m) uid).isSome then 8 else 0 := rfl
  by_cases hc : uid = 0 ∨ 31 < fl ∨ 65536 < body.length
  · rw [if_pos hc] at hpc
    have hpx : putX X ⟨⟨uid, fl, body⟩, A, body.length, c⟩ = X := by unfold putX; rw [hpc]; rfl
    rw [hpc, hpx]
    clear hpc hpx
    by_cases h0 : uid = 0
    · have d0 : (uid == 0) = true := by simp [h0]
      clear hc h0
      go_enter Try.func34, Try.ntmps34
      go_wp2
      go_ret2
      exact ⟨_, rfl, HO.out.new (HWO.out ▸ hn1), HWO.out ▸ hn1⟩
    · have d0 : (uid == 0) = false := by simp [h0]
      by_cases h1 : 31 < fl
      · have d1 : decide (31 < fl) = true := decide_eq_true h1
        clear hc h0 h1
        go_enter Try.func34, Try.ntmps34
        go_wp2
        go_ret2
        exact ⟨_, rfl, HO.out.new (HWO.out ▸ hn1), HWO.out ▸ hn1⟩
      · have d1 : decide (31 < fl) = false := decide_eq_false h1
        have d2 : decide ((65536 : Int) < body.length) = true := decide_eq_true (by omega)
        clear hc h0 h1
        go_enter Try.func34, Try.ntmps34
        go_wp2
        go_ret2
        exact ⟨_, rfl, HO.out.new (HWO.out ▸ hn1), HWO.out ▸ hn1⟩
  · have d0 : (uid == 0) = false := by simp; exact fun e => hc (.inl e)
    have d1 : decide (31 < fl) = false := decide_eq_false fun e => hc (.inr (.inl e))
    have d2 : decide ((65536 : Int) < body.length) = false := decide_eq_false fun e => hc (.inr (.inr (by omega)))
    rw [if_neg hc] at hpc
    cases hfs : (findM (X.map MB.m) uid).isSome with
    | true =>
      rw [hfs] at hpc
      have hpc : putC (X.map MB.m) ⟨uid, fl, body⟩ = 8 := hpc
      have hpx : putX X ⟨⟨uid, fl, body⟩, A, body.length, c⟩ = X := by unfold putX; rw [hpc]; rfl
      rw [hpc, hpx]
      have hfi := (findI_some (M := X.map MB.m) (k := uid)).trans hfs
      clear hpc hpx hfs hc
      generalize findI (X.map MB.m) uid = r at *
      go_enter Try.func34, Try.ntmps34
      go_wp2_with fail
      rw [← HWO.out]
      refine HRF.out.mono ?_
      rintro e w2 ⟨rfl, hn2⟩
      go_wp2
      go_ret2
      exact ⟨_, rfl, HO.out.new (hn1.trans hn2), hn1.trans hn2⟩
    | false =>
      rw [hfs] at hpc
      have hpc : putC (X.map MB.m) ⟨uid, fl, body⟩ = 0 := hpc
      have hpx : putX X ⟨⟨uid, fl, body⟩, A, body.length, c⟩ = X ++ [⟨⟨uid, fl, body⟩, A, body.length, c⟩] := by unfold putX; rw [hpc, if_pos rfl]
      rw [hpc, hpx]
      have hfi := (findI_some (M := X.map MB.m) (k := uid)).trans hfs
      clear hpc hpx hfs hc
      generalize findI (X.map MB.m) uid = r at *
      go_enter Try.func34, Try.ntmps34
      go_wp2_with fail
      rw [← HWO.out]
      refine HRF.out.mono ?_
      rintro e w2 ⟨rfl, hn2⟩
      have bx2 := hn2.blk bx
      have x0 : w2.cell? ⟨w.heap.size, 0, none⟩ = some (.int .u32 uid) := bx2.cell 0
      have x1 : w2.cell? ⟨w.heap.size, 1, none⟩ = some (.int .u8 fl) := bx2.cell 1
      have x2 : w2.cell? ⟨w.heap.size, 2, none⟩ = some (.slice A body.length c) := bx2.cell 2
      have hn02 := hn1.trans hn2
      have HRD := Lib.hid (HO.out.rd.new hn02)
      have hs2 := hn02.size
      have HWN := Lib.hid hn02
      clear hn1 hn2 bx hs1 HWO hwo hn02
      go_wp2_with fail
      obtain ⟨wr, hwr⟩ : ∃ wr, wr = w2 := ⟨_, rfl⟩
      obtain ⟨s2, hs2'⟩ : ∃ s2, X ++ [(⟨⟨uid, fl, body⟩, A, body.length, c⟩ : MB)] = s2 := ⟨_, rfl⟩
      have HS2 := Lib.hid hs2'
      clear hs2' hwr
      go_region_held3 (fun w' => w'.cell? ⟨w.heap.size, 0, none⟩ = some (.int .u32 uid) ∧ w'.cell? ⟨w.heap.size, 1, none⟩ = some (.int .u8 fl) ∧ w'.cell? ⟨w.heap.size, 2, none⟩ = some (.slice A body.length c)) (first | go_keep | (refine ⟨?_, ?_, ?_⟩ <;> assumption))
        ((first
          | (refine step_append_new (E := mbE) (l := []) (v := .slice (some ⟨w2.heap.size, 0, none⟩) 0 0) w2 (by rfl) (.tmp 27) (.tmp 28) 47 (by rfl) Try.underlying47 hi hz0 hz1 hz2 rfl (by rfl) (by rfl) X ?own ?rd (by simp; unfold maxLen; omega) (by simp; omega) ?new X rfl ?_
             case own => repeat' first | exact Own.empty _ _ _ _ (by simp) | exact Own.empty1 _ _ _ _ _ (by simp) | apply Own.alloc
             case new => repeat' first | assumption | exact New.refl _ | apply Fr.alloc | apply Fr.drewN | apply Fr.drew
             case rd => exact Rd.new HRD.out (by repeat' first | assumption | exact New.refl _ | apply Fr.alloc | apply Fr.drewN | apply Fr.drew)
             intro A1 c1 w3 h3 hn3 hf3
             have y0 : w3.cell? ⟨w.heap.size, 0, none⟩ = some (.int .u32 uid) := Fr.cell hn3 x0 id
             have y1 : w3.cell? ⟨w.heap.size, 1, none⟩ = some (.int .u8 fl) := Fr.cell hn3 x1 id
             have y2 : w3.cell? ⟨w.heap.size, 2, none⟩ = some (.slice A body.length c) := Fr.cell hn3 x2 id
             have hb1 := Lib.hid (Fr.blk hf3.out (Blk.new1 (w2.drew) _ 34 #[.int .u32 uid, .int .u8 fl, .slice A body.length c]) (by simp [Value.ownBlock])))
          | (refine step_append_new (E := mbE) (l := []) (v := .slice (some ⟨w2.heap.size, 0, none⟩) 0 0) w2 (by rfl) (.tmp 27) (.tmp 28) 47 (by rfl) Try.underlying47 hi hz0 hz1 hz2 rfl (by rfl) (by rfl) X ?own ?rd (by simp; unfold maxLen; omega) (by simp; omega) ?new X rfl ?_
             case own => repeat' first | exact Own.empty _ _ _ _ (by simp) | exact Own.empty1 _ _ _ _ _ (by simp) | apply Own.alloc
             case new => repeat' first | assumption | exact New.refl _ | apply Fr.alloc | apply Fr.drewN | apply Fr.drew
             case rd => exact Rd.new HRD.out (by repeat' first | assumption | exact New.refl _ | apply Fr.alloc | apply Fr.drewN | apply Fr.drew)
             intro A1 c1 w3 h3 hn3 hf3
             have y0 : w3.cell? ⟨w.heap.size, 0, none⟩ = some (.int .u32 uid) := Fr.cell hn3 x0 id
             have y1 : w3.cell? ⟨w.heap.size, 1, none⟩ = some (.int .u8 fl) := Fr.cell hn3 x1 id
             have y2 : w3.cell? ⟨w.heap.size, 2, none⟩ = some (.slice A body.length c) := Fr.cell hn3 x2 id)
          | (refine step_append_new (E := mbE) (l := []) (v := .slice (some ⟨w2.heap.size + 1, 0, none⟩) 0 0) w2 (by rfl) (.tmp 27) (.tmp 28) 47 (by rfl) Try.underlying47 hi hz0 hz1 hz2 rfl (by rfl) (by rfl) X ?own ?rd (by simp; unfold maxLen; omega) (by simp; omega) ?new X rfl ?_
             case own => repeat' first | exact Own.empty _ _ _ _ (by simp) | exact Own.empty1 _ _ _ _ _ (by simp) | apply Own.alloc
             case new => repeat' first | assumption | exact New.refl _ | apply Fr.alloc | apply Fr.drewN | apply Fr.drew
             case rd => exact Rd.new HRD.out (by repeat' first | assumption | exact New.refl _ | apply Fr.alloc | apply Fr.drewN | apply Fr.drew)
             intro A1 c1 w3 h3 hn3 hf3
             have y0 : w3.cell? ⟨w.heap.size, 0, none⟩ = some (.int .u32 uid) := Fr.cell hn3 x0 id
             have y1 : w3.cell? ⟨w.heap.size, 1, none⟩ = some (.int .u8 fl) := Fr.cell hn3 x1 id
             have y2 : w3.cell? ⟨w.heap.size, 2, none⟩ = some (.slice A body.length c) := Fr.cell hn3 x2 id
             have hb1 := Lib.hid (Fr.blk hf3.out ((Blk.new (w2.drew) 34 #[.int .u32 uid, .int .u8 fl, .slice A body.length c]).alloc _) (by simp [Value.ownBlock])))
          | (refine step_append_new (E := mbE) (l := X) w2 (by rfl) (.tmp 29) (.tmp 31) 47 (by rfl) Try.underlying47 hi hz0 hz1 hz2 rfl (by rfl) (by rfl) [⟨⟨uid, fl, body⟩, A, body.length, c⟩] ?own ?rd (by simp; unfold maxLen; omega) (by simp; omega) ?new s2 HS2.out ?_
             case own => repeat' first | exact h3 | apply Own.alloc
             case new => repeat' first | assumption | exact New.refl _ | apply Fr.alloc | apply Fr.drewN | apply Fr.drew
             case rd => first | exact rd_block mbE hb1.out [⟨⟨uid, fl, body⟩, A, body.length, c⟩] rfl | exact rd_block mbE (Blk.new w3 34 #[.int .u32 uid, .int .u8 fl, .slice A body.length c]) [⟨⟨uid, fl, body⟩, A, body.length, c⟩] rfl
             intro A2 c2 w4 h4 hn4 hf4
             have z0 : w4.cell? ⟨w.heap.size, 0, none⟩ = some (.int .u32 uid) := Fr.cell hn4 x0 id
             have z1 : w4.cell? ⟨w.heap.size, 1, none⟩ = some (.int .u8 fl) := Fr.cell hn4 x1 id
             have z2 : w4.cell? ⟨w.heap.size, 2, none⟩ = some (.slice A body.length c) := Fr.cell hn4 x2 id)
          | fail))
      all_goals go_wp2
      all_goals go_ret2
      all_goals exact ⟨_, rfl, (by rw [HS2.out]; exact h4.mono (by omega)), HWN.out.trans hn4⟩

/-- What the reference's Remove hands back. -/
theorem filterX_step {X : List MB} {k : Int} {j : Nat} {x : MB} (hx : X[j]? = some x) : remX (X.take (j + 1)) k = remX (X.take j) k ++ (if x.m.uid != k then [x] else []) := by
  unfold remX
  rw [filter_snoc _ hx]
  by_cases h : x.m.uid = k <;> simp [h]

set_option maxRecDepth 100000 in
set_option maxHeartbeats 3200000 in
theorem rrem_any {v : Value} {w : World} {X : List MB} (hv : Rd mbE w v X) (hl : X.length ≤ 100000) (k : Int) :
    Calls Try.prog 36 #[v, .int .u32 k] w fun e w' => ∃ u, e = .returned u ∧ Own mbE 34 w.heap.size w' u (remX X k) ∧ New w w' := by
  obtain ⟨i0, hi, hz0, hz1, hz2⟩ := info_parts msg_info
  obtain ⟨A, c, rfl, hlc, hcells⟩ := hv
  have HC := Lib.hid hcells
  clear hcells
  go_enter Try.func36, Try.ntmps36
  go_wp2
  go_loopw [5, 6] (fun vo vi wr => ∃ j : Nat, vi = .int .i64 j ∧ j ≤ X.length ∧ Own mbE 34 w.heap.size wr vo (remX (X.take j) k) ∧ New w wr) (fun _ vi _ => X.length - (intOf vi).toNat)
  case atStart => exact ⟨0, rfl, Nat.zero_le _, Own.nil _ _ _ _, New.refl _⟩
  case round =>
    obtain ⟨j, rfl, hj, hown, hnew⟩ := hrel
    have hfl : (remX (X.take j) k).length ≤ 100000 := Nat.le_trans (List.length_filter_le _ _) (by rw [List.length_take]; omega)
    have hsz := hnew.size
    by_cases hlt : j < X.length
    · have hd : decide ((j : Int) < X.length) = true := decide_eq_true (by omega)
      obtain ⟨x, hx⟩ : ∃ x, X[j]? = some x := ⟨_, List.getElem?_eq_getElem hlt⟩
      obtain ⟨b, off, rfl, hcell⟩ := HC.out (by rintro rfl; simp at hlt)
      have HTK := Lib.hid (filterX_step (k := k) hx)
      obtain ⟨⟨uid, fl, body⟩, xA, xn, xc⟩ := x
      have c0 : wr.cell? ⟨b, off + j * 3, none⟩ = some (.int .u32 uid) := Fr.cell hnew (hcell j _ hx 0 _ rfl) id
      have c1 : wr.cell? ⟨b, off + j * 3 + 1, none⟩ = some (.int .u8 fl) := Fr.cell hnew (hcell j _ hx 1 _ rfl) id
      have c2 : wr.cell? ⟨b, off + j * 3 + 2, none⟩ = some (.slice xA xn xc) := Fr.cell hnew (hcell j _ hx 2 _ rfl) id
      have hkI : (j : Int) < X.length := by omega
      have hw : IntKind.i64.wrap ((j : Int) + 1) = (j : Int) + 1 := IntWalk.i64_in _ (by omega)
      dsimp only at HTK
      obtain ⟨m, hm⟩ : ∃ m, remX (X.take j) k = m := ⟨_, rfl⟩
      rw [hm] at hown hfl HTK
      clear hcell hx hm
      obtain ⟨A0, N0, C0, rfl⟩ := own_shape hown
      cases hq : (uid != k)
      · rw [hq] at HTK
        have HQ := Lib.hid hq
        go_wp2
        go_roundw
        case rel => exact ⟨j + 1, by go_num, by omega, by rw [HTK.out]; simpa using hown, hnew⟩
        case measure => simp [intOf]; omega
      · rw [hq] at HTK
        go_wp2_with (at_builtin; refine wpList_push (E := mbE) rfl _ _ _ rfl Try.underlying47 hi hz0 hz1 hz2 rfl (hown.alloc _) rfl ⟨⟨uid, fl, body⟩, xA, xn, xc⟩ wr.heap.size (Blk.new _ _ _) 1 rfl (by unfold maxLen; omega) (by omega) (by simp; omega) ?_; intro v2 w2 hv2 hf2 hl2)
        go_roundw
        case rel => exact ⟨j + 1, by go_num, by omega, by rw [HTK.out]; simpa using hv2, New.append (hnew.alloc _) (hown.alloc _) hf2⟩
        case measure => simp [intOf]; omega
    · have hd : decide ((j : Int) < X.length) = false := decide_eq_false (by omega)
      rw [List.take_of_length_le (by omega)] at hown
      obtain ⟨A0, N0, C0, rfl⟩ := own_shape hown
      have HO := Lib.hid hown
      clear hown hfl
      go_wp2
      go_ret
      exact ⟨_, rfl, HO.out, hnew⟩

end Go.Proofs.Ytjnaihhkbbeaoaa
end

section
/- The reference of chapter 13: Flags, With, Sizes, Same. -/
namespace Go.Proofs.Ytjnaihhkbbeaoaa
open Go.RowKit

/-- What the reference's Flags makes of its list. -/
def flsX (X : List MB) (k mode f : Int) : List MB := if flC (X.map MB.m) k mode f = 0 then setX X k (flX (X.map MB.m) k mode f) else X
theorem flsX_map (X : List MB) (k mode f : Int) : (flsX X k mode f).map MB.m = flM (X.map MB.m) k mode f := by
  unfold flsX flM
  split
  · exact setX_map _ _ _
  · rfl
theorem findI_x {X : List MB} {k : Int} {i : Nat} (h : findI (X.map MB.m) k = i) : ∃ x, X[i]? = some x ∧ x.m.uid = k ∧ findX X k = some x := by
  obtain ⟨h1, h2⟩ := findI_get h
  rw [List.length_map] at h2
  refine ⟨X[i], List.getElem?_eq_getElem h2, ?_⟩
  rw [List.getElem?_map, List.getElem?_eq_getElem h2, findX_map] at h1
  have h3 : (findX X k).isSome := by
    cases hf : findX X k with
    | none => rw [hf] at h1; cases h1
    | some y => rfl
  obtain ⟨y, hy⟩ := Option.isSome_iff_exists.1 h3
  have h4 : X.findIdx? (fun m => decide (m.m.uid = k)) = some i := by
    unfold findI at h
    rw [List.findIdx?_map] at h
    cases hi : X.findIdx? (fun m => decide (m.m.uid = k)) with
    | none => simp [Function.comp_def, hi] at h
    | some j => simp [Function.comp_def, hi] at h; exact congrArg _ (by omega)
  obtain ⟨hl, hp, hb⟩ := List.findIdx?_eq_some_iff_getElem.1 h4
  refine ⟨by simpa using hp, ?_⟩
  unfold findX
  rw [List.find?_eq_some_iff_getElem]
  exact ⟨hp, i, hl, rfl, fun q hq => by simpa using hb q hq⟩
theorem set_setX {X : List MB} {k v : Int} {i : Nat} {x : MB} (hnd : (X.map fun x => x.m.uid).Nodup) (hx : X[i]? = some x) (he : x.m.uid = k) : X.set i (x.setf v) = setX X k v := by
  refine List.ext_getElem? fun j => ?_
  unfold setX
  rw [List.getElem?_map, List.getElem?_set]
  have hl := (List.getElem?_eq_some_iff.1 hx).1
  by_cases hj : i = j
  · subst hj
    rw [if_pos rfl, if_pos hl, hx]
    simp [he]
  · rw [if_neg hj]
    cases hy : X[j]? with
    | none => rfl
    | some y =>
      have : y.m.uid ≠ k := fun e => by
        obtain rfl := uid_inj hnd (List.mem_iff_getElem?.2 ⟨j, hy⟩) (List.mem_iff_getElem?.2 ⟨i, hx⟩) (e.trans he.symm)
        exact hj ((List.getElem?_inj hl (nodup_of_map hnd)).1 (hx.trans hy.symm))
      simp [this]

set_option maxRecDepth 100000 in
set_option maxHeartbeats 6400000 in
theorem rflags_any {base : Nat} {v : Value} {w : World} {X : List MB} (hv : Own mbE 34 base w v X) (hb : base ≤ w.heap.size) (hl : X.length ≤ 100000) (hnd : (X.map fun x => x.m.uid).Nodup) (hwf : ∀ x ∈ X, 0 ≤ x.m.fl ∧ x.m.fl ≤ 255) (k mode f : Int) (hf : 0 ≤ f ∧ f ≤ 255) :
    Calls Try.prog 35 #[v, .int .u32 k, .int .i64 mode, .int .u8 f] w fun e w' => ∃ u, e = .returned (.tuple #[u, .int .i64 (flX (X.map MB.m) k mode f), .int .i64 (flC (X.map MB.m) k mode f)]) ∧ Own mbE 34 base w' u (flsX X k mode f) ∧ New w w' := by
  obtain ⟨i0, hi, hz0, hz1, hz2⟩ := info_parts msg_info
  have HO := Lib.hid hv
  obtain ⟨vA, vc, rfl, _⟩ := hv.form
  have hrf := rfind_any hv.rd hl k
  have HRF := Lib.hid hrf
  have HRD := Lib.hid hv.rd
  have h0 := Own.empty mbE 34 w.heap.size w (Nat.le_refl _)
  clear hrf
  cases hfs : (findM (X.map MB.m) k).isSome with
  | false =>
    have hno : findM (X.map MB.m) k = none := by cases h : findM (X.map MB.m) k with
      | none => rfl
      | some x => rw [h] at hfs; cases hfs
    have e1 : flX (X.map MB.m) k mode f = 0 := by unfold flX; rw [hno]
    have e2 : flC (X.map MB.m) k mode f = 7 := by unfold flC; rw [hno]
    have e3 : flsX X k mode f = X := by unfold flsX; rw [e2]; rfl
    rw [e1, e2, e3]
    have hneg : decide (findI (X.map MB.m) k < 0) = true := by
      have := (findI_some (M := X.map MB.m) (k := k)).trans hfs
      simp at this ⊢
      omega
    clear hv hfs hno e1 e2 e3 h0
    generalize findI (X.map MB.m) k = r at *
    go_enter Try.func35, Try.ntmps35
    go_wp2_with fail
    refine HRF.out.mono ?_
    rintro e w2 ⟨rfl, hn2⟩
    go_wp2
    go_ret3
    exact ⟨_, rfl, HO.out.new hn2, hn2⟩
  | true =>
    obtain ⟨i, hi0⟩ : ∃ i : Nat, findI (X.map MB.m) k = i := ⟨(findI (X.map MB.m) k).toNat, by have := findI_nonneg.2 hfs; omega⟩
    obtain ⟨x, hx, hxu, hxf⟩ := findI_x hi0
    have hxm : findM (X.map MB.m) k = some x.m := by rw [findX_map, hxf]; rfl
    have hil := (List.getElem?_eq_some_iff.1 hx).1
    have hiI : (i : Int) < X.length := by omega
    have hi1 : (0 : Int) ≤ i := by omega
    have hdneg : decide ((i : Int) < 0) = false := decide_eq_false (by omega)
    have hwx := hwf x (List.mem_iff_getElem?.2 ⟨i, hx⟩)
    obtain ⟨g, rfl⟩ := hv.some_ (by omega)
    have ecx : flX (X.map MB.m) k mode f = (chg x.m.fl mode f).getD 0 := by unfold flX; rw [hxm]
    have ecc : flC (X.map MB.m) k mode f = if (chg x.m.fl mode f).isSome then 0 else 2 := by unfold flC; rw [hxm]
    have cx : w.cell? ⟨g, i * 3 + 1, none⟩ = some (.int .u8 x.m.fl) := hv.cell_at hx (j := 1) rfl
    have hset := set_setX (v := (chg x.m.fl mode f).getD 0) hnd hx hxu
    have hrc := fun w => rchange_any x.m.fl mode f hwx hf w
    have hfx : IntKind.i64.wrap x.m.fl = x.m.fl := IntWalk.i64_in _ (by omega)
    have hff : IntKind.i64.wrap f = f := IntWalk.i64_in _ (by omega)
    cases hch : chg x.m.fl mode f with
    | none =>
      rw [hch] at ecx ecc hrc
      have ecc : flC (X.map MB.m) k mode f = 2 := ecc
      have ecx : flX (X.map MB.m) k mode f = 0 := ecx
      have e3 : flsX X k mode f = X := by unfold flsX; rw [ecc]; rfl
      rw [ecx, ecc, e3]
      rw [hi0] at HRF
      have HRC := Lib.hid hrc
      have HX := Lib.hid hx
      generalize x.m.fl = fl at *
      clear hv hfs e3 h0 ecx ecc hset hch hrc hx hxf hxm
      go_enter Try.func35, Try.ntmps35
      go_wp2_with fail
      refine HRF.out.mono ?_
      rintro e w2 ⟨rfl, hn2⟩
      have cx2 : w2.cell? ⟨g, i * 3 + 1, none⟩ = some (.int .u8 fl) := Fr.cell hn2 cx id
      go_wp2_with fail
      refine (HRC.out _).mono ?_
      rintro e w3 ⟨rfl, rfl⟩
      go_wp2
      go_ret3
      exact ⟨_, rfl, HO.out.new hn2, hn2⟩
    | some y =>
      rw [hch] at ecx ecc hrc hset
      have ecc : flC (X.map MB.m) k mode f = 0 := ecc
      have ecx : flX (X.map MB.m) k mode f = y := ecx
      have e3 : flsX X k mode f = X.set i (x.setf y) := by unfold flsX; rw [ecc, if_pos rfl, ecx]; exact hset.symm
      have hy := chg_ok hch hf.1
      have hyw : IntKind.u8.wrap y = y := by simp [IntKind.wrap_u8]; omega
      have hyn : decide (y < 0) = false := decide_eq_false (by omega)
      rw [ecx, ecc, e3]
      rw [hi0] at HRF
      have HRC := Lib.hid hrc
      have HX := Lib.hid hx
      have HEN : Hid (mbE.enc (x.setf y) = (mbE.enc x).set 1 (.int .u8 y)) := by show mbE.enc (x.setf y) = (mbE.enc x).set 1 (.int .u8 y); rfl
      obtain ⟨fl, hfl⟩ : ∃ fl, x.m.fl = fl := ⟨_, rfl⟩
      rw [hfl] at cx HRC hfx
      clear hv hfs e3 ecx ecc hset hch hrc hx hxf hxm hwx hfl
      go_enter Try.func35, Try.ntmps35
      go_wp2_with fail
      refine HRF.out.mono ?_
      rintro e w2 ⟨rfl, hn2⟩
      have cx2 : w2.cell? ⟨g, i * 3 + 1, none⟩ = some (.int .u8 fl) := Fr.cell hn2 cx id
      go_wp2_with fail
      refine (HRC.out _).mono ?_
      rintro e w3 ⟨rfl, rfl⟩
      have h2 := Own.empty mbE 34 w2.heap.size w2 (Nat.le_refl _)
      have HRD2 := Lib.hid (HRD.out.new hn2)
      have hsz2 := hn2.size
      go_wp2_with (first
        | (at_builtin; refine wpList_append (E := mbE) (l := []) rfl _ _ _ rfl Try.underlying47 hi hz0 hz1 hz2 rfl h2 rfl (HRD2.out.alloc _) rfl (by unfold maxLen; simp; omega) (by simp; omega) (by simp) ?_; intro v1 w4 hv4 hf4 hl4
           rw [List.nil_append] at hv4
           have hn4 : New w2 w4 := New.append ((New.refl w2).alloc _) h2 hf4
           obtain ⟨A1, c1, rfl, _⟩ := hv4.form
           obtain ⟨g4, rfl⟩ := hv4.some_ (by omega)
           have cz : w4.cell? ⟨g4, i * 3 + 1, none⟩ = some (.int .u8 x.m.fl) := hv4.cell_at HX.out (j := 1) rfl
           have zz : w4.frozen? ⟨g4, i * 3 + 1, none⟩ = false := hv4.frozen _)
        | fail)
      go_ret3
      have h5 : Own mbE 34 w2.heap.size (w4.setCell ⟨g4, i * 3 + 1, none⟩ (.int .u8 y)) (.slice (some ⟨g4, 0, none⟩) X.length c1) (X.set i (x.setf y)) := hv4.stored HX.out (j := 1) (by show 1 < 3; omega) HEN.out
      have hg4 := (hv4.block (b := g4) rfl).1
      exact ⟨_, rfl, h5.mono (by omega), New.two (hn2.trans hn4) ((Fr.refl (fun k => k = g4) _).setCell (p := ⟨g4, i * 3 + 1, none⟩) (fun _ => rfl) _) (fun i hi => by omega)⟩

theorem sort_asc {l s : List Int} (hnd : l.Nodup) (h0 : ∀ x ∈ l, x ≠ 0) (h : AscOf l s) : s = l.mergeSort fun x y => decide (x ≤ y) := by
  refine h.ext ⟨?_, fun x => ?_⟩
  · have h1 := List.pairwise_mergeSort (le := fun x y : Int => decide (x ≤ y)) (by intro a b c h1 h2; simp at *; omega) (by intro a b; simp; omega) l
    have h2 : (l.mergeSort fun x y => decide (x ≤ y)).Nodup := (List.mergeSort_perm l _).nodup_iff.2 hnd
    unfold Asc
    unfold List.Nodup at h2
    refine (List.pairwise_and_iff.2 ⟨h1, h2⟩).imp ?_
    rintro a b ⟨h3, h4⟩
    simp at h3
    omega
  · rw [List.mem_mergeSort]
    exact ⟨fun h => ⟨h, h0 x h⟩, fun h => h.1⟩

theorem withX_step {X : List MB} {f : Int} {j : Nat} {x : MB} (hx : X[j]? = some x) : withX f (X.take (j + 1)) = withX f (X.take j) ++ (if andI x.m.fl f == f then [x.m.uid] else []) := by
  rw [take_snoc hx, withX_app]
  congr 1
  unfold withX
  by_cases h : andI x.m.fl f = f <;> simp [h]

set_option maxRecDepth 100000 in
set_option maxHeartbeats 3200000 in
theorem rwith_any {v : Value} {w : World} {X : List MB} (hv : Rd mbE w v X) (hl : X.length ≤ 100000) (hnd : (X.map fun x => x.m.uid).Nodup) (hok : ∀ x ∈ X, x.m.uid ≠ 0 ∧ 0 ≤ x.m.fl ∧ x.m.fl ≤ 255) (f : Int) (hf : 0 ≤ f ∧ f ≤ 255) :
    Calls Try.prog 23 #[v, .int .u8 f] w fun e w' => ∃ o, e = .returned o ∧ Own (intE .u32) 22 w.heap.size w' o ((withL (X.map MB.m) f).mergeSort fun x y => decide (x ≤ y)) ∧ New w w' := by
  obtain ⟨i0, hi, hz0, hz1, hz2⟩ := info_parts u32_info
  obtain ⟨A, c, rfl, hlc, hcells⟩ := hv
  have HC := Lib.hid hcells
  clear hcells
  have HOK := Lib.hid hok
  have hwn : (withX f X).Nodup := hnd.sublist (List.Sublist.map _ List.filter_sublist)
  have hw0 : ∀ x ∈ withX f X, x ≠ 0 := fun x hx => by
    obtain ⟨y, hy, rfl⟩ := List.mem_map.1 hx
    exact (hok y (List.mem_filter.1 hy).1).1
  have HSA := Lib.hid (fun s (h : AscOf (withX f X) s) => sort_asc hwn hw0 h)
  rw [withX_map] at HSA
  clear hwn hw0 hnd hok
  go_enter Try.func23, Try.ntmps23
  go_wp2
  go_loopw [5, 6] (fun vo vi wr => ∃ j : Nat, vi = .int .i64 j ∧ j ≤ X.length ∧ Own (intE .u32) 22 w.heap.size wr vo (withX f (X.take j)) ∧ New w wr) (fun _ vi _ => X.length - (intOf vi).toNat)
  case atStart => exact ⟨0, rfl, Nat.zero_le _, Own.nil _ _ _ _, New.refl _⟩
  case round =>
    obtain ⟨j, rfl, hj, hown, hnew⟩ := hrel
    have hfl : (withX f (X.take j)).length ≤ 100000 := Nat.le_trans (withX_len _ _) (by rw [List.length_take]; omega)
    have hsz := hnew.size
    by_cases hlt : j < X.length
    · have hd : decide ((j : Int) < X.length) = true := decide_eq_true (by omega)
      obtain ⟨x, hx⟩ : ∃ x, X[j]? = some x := ⟨_, List.getElem?_eq_getElem hlt⟩
      obtain ⟨b, off, rfl, hcell⟩ := HC.out (by rintro rfl; simp at hlt)
      have HTK := Lib.hid (withX_step (f := f) hx)
      have hxo := (HOK.out x (List.mem_iff_getElem?.2 ⟨j, hx⟩)).2
      obtain ⟨⟨uid, fl, body⟩, xA, xn, xc⟩ := x
      dsimp only at HTK hxo
      have c0 : wr.cell? ⟨b, off + j * 3, none⟩ = some (.int .u32 uid) := Fr.cell hnew (hcell j _ hx 0 _ rfl) id
      have c1 : wr.cell? ⟨b, off + j * 3 + 1, none⟩ = some (.int .u8 fl) := Fr.cell hnew (hcell j _ hx 1 _ rfl) id
      have hkI : (j : Int) < X.length := by omega
      have hw : IntKind.i64.wrap ((j : Int) + 1) = (j : Int) + 1 := IntWalk.i64_in _ (by omega)
      obtain ⟨aa, haa⟩ : ∃ aa, andI fl f = aa := ⟨_, rfl⟩
      have hbits : bits .and .u8 fl f = aa := (u8_andI hxo.1 hxo.2 hf.1 hf.2).trans haa
      rw [haa] at HTK
      obtain ⟨m, hm⟩ : ∃ m, withX f (X.take j) = m := ⟨_, rfl⟩
      rw [hm] at hown hfl HTK
      clear hcell hx hm haa
      obtain ⟨A0, N0, C0, rfl⟩ := own_shape hown
      cases hq : (aa == f)
      · rw [hq] at HTK
        have HQ := Lib.hid hq
        go_wp2
        go_roundw
        case rel => exact ⟨j + 1, by go_num, by omega, by rw [HTK.out]; simpa using hown, hnew⟩
        case measure => simp [intOf]; omega
      · rw [hq] at HTK
        go_wp2_with (at_builtin; refine wpList_push (E := intE .u32) rfl _ _ _ rfl Try.underlying38 hi hz0 hz1 hz2 rfl (hown.alloc _) rfl uid wr.heap.size (Blk.new _ _ _) 1 rfl (by unfold maxLen; omega) (by omega) (by simp; omega) ?_; intro v2 w2 hv2 hf2 hl2)
        go_roundw
        case rel => exact ⟨j + 1, by go_num, by omega, by rw [HTK.out]; simpa using hv2, New.append (hnew.alloc _) (hown.alloc _) hf2⟩
        case measure => simp [intOf]; omega
    · have hd : decide ((j : Int) < X.length) = false := decide_eq_false (by omega)
      rw [List.take_of_length_le (by omega), withX_map] at hown
      have hfl2 : (withL (X.map MB.m) f).length ≤ 100000 := by rw [← withX_map]; exact Nat.le_trans (withX_len _ _) hl
      obtain ⟨A0, N0, C0, rfl⟩ := own_shape hown
      have HO := Lib.hid hown
      clear hown hfl
      go_wp2_with fail
      refine (rsorted_any HO.out.rd hfl2).mono ?_
      rintro e w2 ⟨o, s, rfl, ho, hasc, _, hn2⟩
      have HS := Lib.hid (HSA.out s hasc)
      have HN := Lib.hid (hnew.trans hn2)
      have HO2 := Lib.hid (ho.mono hsz)
      clear hasc ho hn2
      go_wp2
      go_ret
      exact ⟨o, rfl, by rw [← HS.out]; exact HO2.out, HN.out⟩

theorem strM_snoc (n i : Nat) (M : List Msg) (m : Msg) : ((strM n i (M ++ [m])).length : Int) = (strM n i M).length + if m.uid % (n : Int) = i then 1 else 0 := by
  unfold strM
  rw [List.filter_append]
  by_cases h : m.uid % (n : Int) = i <;> simp [h]

theorem sizesM_snoc {n k : Nat} (M : List Msg) {m : Msg} (hk : m.uid % (n : Int) = k) (hkn : k < n) : sizesM n (M ++ [m]) = (sizesM n M).set k (((strM n k M).length : Int) + 1) := by
  refine List.ext_getElem? fun j => ?_
  rw [List.getElem?_set, sizesM_len]
  unfold sizesM
  rw [List.getElem?_map, List.getElem?_map]
  by_cases hj : k = j
  · subst hj
    rw [if_pos rfl, if_pos hkn, List.getElem?_range hkn, Option.map_some, strM_snoc, if_pos hk]
  · rw [if_neg hj]
    rcases Nat.lt_or_ge j n with hjn | hjn
    · rw [List.getElem?_range hjn, Option.map_some, Option.map_some, strM_snoc, if_neg (by rw [hk]; omega), Int.add_zero]
    · rw [List.getElem?_eq_none (by simpa using hjn)]
      rfl
theorem sizesM_at {n k : Nat} (hk : k < n) (M : List Msg) : (sizesM n M)[k]? = some ((strM n k M).length : Int) := by
  unfold sizesM
  rw [List.getElem?_map, List.getElem?_range hk]
  rfl
theorem sizesM_nil (n : Nat) : sizesM n [] = List.replicate n 0 := by
  refine List.ext_getElem? fun j => ?_
  rcases Nat.lt_or_ge j n with hjn | hjn
  · rw [sizesM_at hjn, List.getElem?_replicate_of_lt hjn]; rfl
  · rw [List.getElem?_eq_none (by rw [sizesM_len]; exact hjn), List.getElem?_eq_none (by simpa using hjn)]

theorem madeInts (n : Nat) : (madeCells #[Value.int .i64 0] (n * 1)).toList = (intE .i64).cells (List.replicate n 0) := by
  rw [intE_cells, List.map_replicate]
  refine List.ext_getElem (by simp [madeCells]) fun i h1 h2 => ?_
  simp [madeCells, Nat.mod_one]

set_option maxRecDepth 100000 in
set_option maxHeartbeats 3200000 in
theorem rsizes_any {v : Value} {w : World} {X : List MB} (hv : Rd mbE w v X) (hl : X.length ≤ 100000) (hok : ∀ x ∈ X, 0 ≤ x.m.uid ∧ x.m.uid ≤ 4294967295) (n : Nat) (hn0 : 0 < n) (hn1 : n ≤ 16) :
    Calls Try.prog 22 #[v, .int .i64 n] w fun e w' => ∃ o, e = .returned o ∧ Own (intE .i64) 3 w.heap.size w' o (sizesM n (X.map MB.m)) ∧ New w w' := by
  obtain ⟨i0, hi, hz0, hz1, hz2⟩ := info_parts int_info2
  obtain ⟨A, c, rfl, hlc, hcells⟩ := hv
  have HC := Lib.hid hcells
  clear hcells
  have HOK := Lib.hid hok
  clear hok
  go_enter Try.func22, Try.ntmps22
  go_wp2_with (first
    | (at_make; refine wpList_make_full _ rfl _ _ 28 rfl w.heap.size 3 i0 _ 1 Try.underlying28 hi hz0 hz1 _ _ _ _ n rfl rfl rfl rfl (by rw [hz2]; omega) (by unfold maxLen; omega) (Nat.le_refl _) ?_; intro w1 hr1 hg1)
    | fail)
  have hn01 : New w w1 := Fr.of_grown hg1 fun _ h => by cases h
  have hr0 : Own (intE .i64) 3 w.heap.size w1 (.slice (some ⟨w.heap.size, 0, none⟩) n n) (sizesM n []) := by
    rw [sizesM_nil]
    unfold Own
    rw [← madeInts, List.length_replicate]
    exact hr1
  go_loopw [6] (fun vi wr => ∃ j : Nat, vi = .int .i64 j ∧ j ≤ X.length ∧ Own (intE .i64) 3 w.heap.size wr (.slice (some ⟨w.heap.size, 0, none⟩) n n) (sizesM n ((X.take j).map MB.m)) ∧ New w wr) (fun vi _ => X.length - (intOf vi).toNat)
  case atStart => exact ⟨0, rfl, Nat.zero_le _, hr0, hn01⟩
  case round =>
    obtain ⟨j, rfl, hj, hown, hnew⟩ := hrel
    have hsz := hnew.size
    by_cases hlt : j < X.length
    · have hd : decide ((j : Int) < X.length) = true := decide_eq_true (by omega)
      obtain ⟨x, hx⟩ : ∃ x, X[j]? = some x := ⟨_, List.getElem?_eq_getElem hlt⟩
      obtain ⟨b, off, rfl, hcell⟩ := HC.out (by rintro rfl; simp at hlt)
      have hxo := HOK.out x (List.mem_iff_getElem?.2 ⟨j, hx⟩)
      have htk := take_snoc hx
      obtain ⟨⟨uid, fl, body⟩, xA, xn, xc⟩ := x
      dsimp only at hxo
      have c0 : wr.cell? ⟨b, off + j * 3, none⟩ = some (.int .u32 uid) := Fr.cell hnew (hcell j _ hx 0 _ rfl) id
      have hkI : (j : Int) < X.length := by omega
      have hw : IntKind.i64.wrap ((j : Int) + 1) = (j : Int) + 1 := IntWalk.i64_in _ (by omega)
      have hnz : (n : Int) ≠ 0 := by omega
      have hnz' : ((n : Int) == 0) = false := by simp; omega
      have hcv : IntKind.i64.wrap uid = uid := IntWalk.i64_in _ (by omega)
      have hm0 : 0 ≤ uid % (n : Int) := Int.emod_nonneg _ (by omega)
      have hm1 : uid % (n : Int) < n := Int.emod_lt_of_pos _ (by omega)
      obtain ⟨k, hk⟩ : ∃ k : Nat, uid % (n : Int) = k := ⟨(uid % (n : Int)).toNat, by omega⟩
      have hkn : k < n := by omega
      have hmod : Int.tmod uid (n : Int) = k := (Int.tmod_eq_emod_of_nonneg hxo.1).trans hk
      have hkw : IntKind.i64.wrap (k : Int) = k := IntWalk.i64_in _ (by omega)
      have hk0 : (0 : Int) ≤ k := by omega
      have hkI2 : (k : Int) < n := by omega
      obtain ⟨M, hM⟩ : ∃ M, (X.take j).map MB.m = M := ⟨_, rfl⟩
      have hMl : M.length ≤ 100000 := by rw [← hM, List.length_map, List.length_take]; omega
      rw [hM] at hown
      have hst := sizesM_snoc M (m := ⟨uid, fl, body⟩) hk hkn
      have hat := sizesM_at hkn M
      have hcnt : (strM n k M).length ≤ 100000 := Nat.le_trans (List.length_filter_le _ _) hMl
      obtain ⟨cnt, hcn⟩ : ∃ cnt, (strM n k M).length = cnt := ⟨_, rfl⟩
      rw [hcn] at hst hat hcnt
      have cc : wr.cell? ⟨w.heap.size, k, none⟩ = some (.int .i64 cnt) := hown.icell hat
      have zz : wr.frozen? ⟨w.heap.size, k, none⟩ = false := hown.ifrozen k
      have hcw : IntKind.i64.wrap ((cnt : Int) + 1) = (cnt : Int) + 1 := IntWalk.i64_in _ (by omega)
      have hnext : Own (intE .i64) 3 w.heap.size (wr.setCell ⟨w.heap.size, k, none⟩ (.int .i64 ((cnt : Int) + 1))) (.slice (some ⟨w.heap.size, 0, none⟩) n n) (sizesM n ((X.take (j + 1)).map MB.m)) := by
        rw [htk, List.map_append, hM, List.map_singleton, hst]
        exact hown.istored k _
      have HN := Lib.hid hnext
      have HW := Lib.hid (New.two hnew ((Fr.refl (fun k => k = w.heap.size) _).setCell (p := ⟨w.heap.size, k, none⟩) (fun _ => rfl) (.int .i64 ((cnt : Int) + 1))) (fun i hi => by omega))
      clear hcell hx htk hst hat hnext hown hnew hM hcn hk hm0 hm1
      go_wp2
      go_roundw
      case rel => exact ⟨j + 1, by go_num, by omega, HN.out, HW.out⟩
      case measure => simp [intOf]; omega
    · have hd : decide ((j : Int) < X.length) = false := decide_eq_false (by omega)
      rw [List.take_of_length_le (by omega)] at hown
      have HO := Lib.hid hown
      clear hown
      go_wp2
      go_ret
      exact ⟨_, rfl, HO.out, hnew⟩

end Go.Proofs.Ytjnaihhkbbeaoaa
end

section
/- The reference of chapter 13: Same. -/
namespace Go.Proofs.Ytjnaihhkbbeaoaa
open Go.RowKit

theorem conv_rd {w : World} {v : Value} {l : List Int} (h : Rd (intE .u8) w v l) : (convert 32 9 v).run Try.prog w = .ok (.string (strOfNums l)) w := by
  obtain ⟨A, c, rfl, _, hc⟩ := h.ints
  cases A with
  | none =>
    have hl : l = [] := by
      cases l with
      | nil => rfl
      | cons x l => obtain ⟨b, off, h, _⟩ := hc (by simp); cases h
    subst hl
    exact run_convert_bytes_nil w 32 5 Try.underlying32 Try.underlying5 _ _ 9 Try.underlying9
  | some a =>
    by_cases hne : l = []
    · subst hne
      rw [run_convert_bytes_string w 32 9 5 _ _ _ Try.underlying32 Try.underlying5 Try.underlying9, show ([] : List Int).length = 0 from rfl, run_bytesToString (P := Try.prog) w a 0 c [] rfl]
      rfl
    · obtain ⟨b, off, he, hcell⟩ := hc hne
      cases he
      refine run_convert_bytes_arg w 32 5 Try.underlying32 Try.underlying5 b off _ _ l rfl (fun i hi => ?_) 9 Try.underlying9
      exact hcell i _ (by rw [List.getD_eq_getElem?_getD, List.getElem?_eq_getElem hi]; rfl)

set_option maxRecDepth 100000 in
set_option maxHeartbeats 3200000 in
/-- Two messages that are the same. -/
theorem rsame_any (x y : MB) (w : World) (hx : Rd (intE .u8) w x.bv x.m.body) (hy : Rd (intE .u8) w y.bv y.m.body) (he : x.m = y.m) :
    Calls Try.prog 17 #[x.val, y.val] w fun e w' => e = .returned (.bool true) ∧ New w w' := by
  obtain ⟨xm, xA, xn, xc⟩ := x
  obtain ⟨⟨uid, fl, body⟩, A, n, c⟩ := y
  dsimp only at he
  subst he
  simp only [MB.bv, MB.val] at hx hy ⊢
  obtain ⟨wq, hwq⟩ : ∃ wq, wq = (w.alloc (.cells #[.int .u32 uid, .int .u8 fl, .slice xA xn xc] 34)).alloc (.cells #[.int .u32 uid, .int .u8 fl, .slice A n c] 34) := ⟨_, rfl⟩
  have hn1 : New w wq := by rw [hwq]; exact ((New.refl w).alloc _).alloc _
  have k1 := conv_rd (hx.new hn1)
  have k2 := conv_rd (hy.new hn1)
  generalize strOfNums body = s at *
  rw [hwq] at k1 k2 hn1
  clear hx hy hwq
  go_enter Try.func17, Try.ntmps17
  go_wp2
  go_ret
  first | exact ⟨rfl, hn1⟩ | exact ⟨by simp, hn1⟩

end Go.Proofs.Ytjnaihhkbbeaoaa
end

section
/- A call played on a table and on the reference's list. -/
namespace Go.Proofs.Ytjnaihhkbbeaoaa
open Go.RowKit

def SOp.val (o : SOp) : Value := .agg #[.int .i64 o.k, .int .u32 o.x.m.uid, .int .u8 o.x.m.fl, .slice o.x.A o.x.n o.x.c, .int .i64 o.mode]

/-- Calls are few and small. -/
def fewP (l : List SOp) : Bool := (l.all fun o => decide (o.x.m.body.length ≤ 300)) && decide (l.length ≤ 60)

set_option maxRecDepth 100000 in
set_option maxHeartbeats 1600000 in
theorem few_any {v : Value} {w : World} {l : List SOp} (hv : Rd sopE w v l) (hin : ∀ o ∈ l, o.inn w) (hl : l.length ≤ maxLen) :
    Calls Try.prog 18 #[v] w fun e w' => e = .returned (.bool (fewP l)) ∧ New w w' := by
  obtain ⟨A, c, rfl, hlc, hcells⟩ := hv
  have HC := Lib.hid hcells
  have HIN := Lib.hid hin
  clear hcells hin
  unfold maxLen at hl
  go_enter Try.func18, Try.ntmps18
  go_wp2
  go_loopw [7] (fun vi wr => ∃ j : Nat, vi = .int .i64 j ∧ j ≤ l.length ∧ Hid ((l.take j).all (fun o => decide (o.x.m.body.length ≤ 300)) = true) ∧ New w wr) (fun vi _ => l.length - (intOf vi).toNat)
  case atStart => exact ⟨0, rfl, Nat.zero_le _, rfl, New.refl _⟩
  case round =>
    obtain ⟨j, rfl, hj, HA, hnew⟩ := hrel
    by_cases hlt : j < l.length
    · have hd : decide ((j : Int) < l.length) = true := decide_eq_true (by omega)
      obtain ⟨o, hx⟩ : ∃ o, l[j]? = some o := ⟨_, List.getElem?_eq_getElem hlt⟩
      obtain ⟨b, off, rfl, hcell⟩ := HC.out (by rintro rfl; simp at hlt)
      have hmem : o ∈ l := List.mem_iff_getElem?.2 ⟨j, hx⟩
      have hn := MB.len_eq (HIN.out o hmem).2.1.2.1
      have HTK := Lib.hid (take_snoc hx)
      have hc0 := Fr.cell hnew (hcell j _ hx 0 _ rfl) id
      have hc1 := Fr.cell hnew (hcell j _ hx 1 _ rfl) id
      have hc2 := Fr.cell hnew (hcell j _ hx 2 _ rfl) id
      have hc3 := Fr.cell hnew (hcell j _ hx 3 _ rfl) id
      have hc4 := Fr.cell hnew (hcell j _ hx 4 _ rfl) id
      obtain ⟨k, ⟨⟨uid, fl, body⟩, xA, xn, xc⟩, mode⟩ := o
      dsimp only at hn
      subst hn
      have c0 : wr.cell? ⟨b, off + j * 5, none⟩ = some (.int .i64 k) := hc0
      have c1 : wr.cell? ⟨b, off + j * 5 + 1, none⟩ = some (.int .u32 uid) := hc1
      have c2 : wr.cell? ⟨b, off + j * 5 + 2, none⟩ = some (.int .u8 fl) := hc2
      have c3 : wr.cell? ⟨b, off + j * 5 + 3, none⟩ = some (.slice xA body.length xc) := hc3
      have c4 : wr.cell? ⟨b, off + j * 5 + 4, none⟩ = some (.int .i64 mode) := hc4
      have hkI : (j : Int) < l.length := by omega
      have hw : IntKind.i64.wrap ((j : Int) + 1) = (j : Int) + 1 := IntWalk.i64_in _ (by omega)
      clear hcell hc0 hc1 hc2 hc3 hc4
      rcases Nat.lt_or_ge 300 body.length with hb | hb
      · have hbd : decide ((300 : Int) < body.length) = true := decide_eq_true (by omega)
        have hf : fewP l = false := by
          unfold fewP
          rw [Bool.and_eq_false_iff]
          refine .inl ?_
          rw [List.all_eq_false]
          exact ⟨_, hmem, by simp; omega⟩
        have HF := Lib.hid hf
        clear hf hx hmem
        go_wp2
        go_ret
        exact ⟨by simp [HF.out], hnew.alloc _⟩
      · have hbd : decide ((300 : Int) < body.length) = false := decide_eq_false (by omega)
        have ha : (l.take (j + 1)).all (fun o => decide (o.x.m.body.length ≤ 300)) = true := by
          rw [HTK.out, List.all_append, HA.out]
          simp
          exact hb
        have HA2 := Lib.hid ha
        clear hx hmem ha
        go_wp2
        go_roundw
        case rel => exact ⟨j + 1, by go_num, by omega, HA2.out, hnew.alloc _⟩
        case measure => simp [intOf]; omega
    · have hd : decide ((j : Int) < l.length) = false := decide_eq_false (by omega)
      have ha := HA.out
      rw [List.take_of_length_le (by omega)] at ha
      have hf : fewP l = decide ((l.length : Int) ≤ 60) := by
        unfold fewP
        rw [ha, Bool.true_and]
        exact decide_eq_decide.2 (by omega)
      have HF := Lib.hid hf
      clear ha hf
      go_wp2
      go_ret
      exact ⟨by simp [HF.out], hnew⟩

/-- What the list of messages is behind a call. -/
def stepM (M : List Msg) (o : SOp) : List Msg := if o.k = 0 then putM M o.x.m else if o.k = 1 then flM M o.x.m.uid o.mode o.x.m.fl else if o.k = 2 then remM M o.x.m.uid else M

/-- The table and the reference's list, which hold the same messages. -/
structure PS (w0 wr : World) (base : Nat) (T : Tb) (X : List MB) (v : Value) (Y : List MB) : Prop where
  made : Made w0 wr base T X
  own : Own mbE 34 base wr v Y
  rd : ∀ y ∈ Y, Rd (intE .u8) w0 y.bv y.m.body
  eq : Y.map MB.m = X.map MB.m

theorem PS.more {w0 wr w' : World} {base : Nat} {T : Tb} {X : List MB} {v : Value} {Y : List MB} (h : PS w0 wr base T X v Y) (hn : New wr w') : PS w0 w' base T X v Y := ⟨h.made.more hn, h.own.new hn, h.rd, h.eq⟩
theorem PS.len {w0 wr : World} {base : Nat} {T : Tb} {X : List MB} {v : Value} {Y : List MB} (h : PS w0 wr base T X v Y) : Y.length = X.length := by
  have := congrArg List.length h.eq
  simpa using this
theorem PS.nd {w0 wr : World} {base : Nat} {T : Tb} {X : List MB} {v : Value} {Y : List MB} (h : PS w0 wr base T X v Y) : (Y.map fun x => x.m.uid).Nodup := by
  have h1 : (Y.map fun x => x.m.uid) = X.map fun x => x.m.uid := by
    have := congrArg (List.map Msg.uid) h.eq
    simpa [List.map_map, Function.comp_def] using this
  rw [h1]
  exact h.made.tbl.nd
theorem PS.ok {w0 wr : World} {base : Nat} {T : Tb} {X : List MB} {v : Value} {Y : List MB} (h : PS w0 wr base T X v Y) : ∀ y ∈ Y, y.m.ok := fun y hy => by
  have h1 : y.m ∈ X.map MB.m := by rw [← h.eq]; exact List.mem_map.2 ⟨y, hy, rfl⟩
  obtain ⟨x, hx, he⟩ := List.mem_map.1 h1
  rw [← he]
  exact (h.made.tbl.ok x hx).1
/-- The row lies where no stripe does. -/
theorem PS.row {w0 wr w' : World} {base : Nat} {T : Tb} {X : List MB} {v : Value} {Y : List MB} (h : PS w0 wr base T X v Y) {v' : Value} {Y' : List MB} (ho : Own mbE 34 base wr v' Y') (hf : Fr T.foot wr w') : Own mbE 34 base w' v' Y' :=
  ho.fr hf fun b hb hs => by have h1 := (ho.block hb).1; have h2 := hs.2; have h3 := h.made.hi; omega

theorem want_m {X Y : List MB} (h : Y.map MB.m = X.map MB.m) (k : Int) : ((findX X k).getD mb0).m = ((findX Y k).getD mb0).m ∧ (findX X k).isSome = (findX Y k).isSome := by
  have h1 : (findX X k).map MB.m = (findX Y k).map MB.m := by rw [← findX_map, ← findX_map, h]
  cases hx : findX X k <;> cases hy : findX Y k <;> rw [hx, hy] at h1 <;> simp at h1
  · exact ⟨rfl, rfl⟩
  · exact ⟨h1, rfl⟩

theorem findI_is {Y : List MB} {k : Int} : decide (0 ≤ findI (Y.map MB.m) k) = (findX Y k).isSome := by
  rw [findI_some, findX_isSome]

end Go.Proofs.Ytjnaihhkbbeaoaa
end

