/- Part 15 of the proof of StripeAgrees: StPn0, StPn1, StPn2, StPn3, StPs0, StPs1. -/
import Derived.Test.YtjnaihhkbbeaoaaGStripeAgreesAN

section
/- A call played on a table and on the reference: one way. -/
namespace Go.Proofs.Ytjnaihhkbbeaoaa
open Go.RowKit

set_option maxRecDepth 100000 in
set_option maxHeartbeats 1600000 in
theorem play_n0 {w0 wr : World} {base : Nat} {T : Tb} {X : List MB} {v : Value} {Y : List MB} (h : PS w0 wr base T X v Y) (hX : X.length ≤ 1000) (o : SOp) (ho : o.inn w0) (hf : findX Y o.x.m.uid = none) (hk0 : o.k = 0) :
    Calls Try.prog 19 #[.pointer (some ⟨T.tb, 0, none⟩), v, o.val] wr fun e w' => ∃ v' X' Y', e = .returned (.tuple #[v', .bool true]) ∧ PS w0 w' base T X' v' Y' ∧ X'.map MB.m = stepM (X.map MB.m) o ∧ X'.length ≤ X.length + 1 ∧ Fr T.foot wr w' := by
  obtain ⟨_, ⟨hwf, hb, _⟩, hmode⟩ := ho
  have hxn := MB.len_eq hb
  obtain ⟨k, ⟨⟨uid, fl, body⟩, A, n, c⟩, mode⟩ := o
  dsimp only at hxn hf hk0
  subst hxn
  simp only [SOp.val]
  have HB := Lib.hid hb
  have HWF := Lib.hid hwf
  have HMD := Lib.hid hmode
  have huid0 := hwf.1.1
  have huid1 := hwf.1.2
  have hfl := hwf.2
  dsimp only at huid0 huid1 hfl
  obtain ⟨vA, vc, rfl, _⟩ := h.own.form
  have hYl : Y.length ≤ 1000 := by have := h.len; omega
  have HP := Lib.hid h
  have HST := Lib.hid (show stepM (X.map MB.m) ⟨k, ⟨⟨uid, fl, body⟩, A, body.length, c⟩, mode⟩ = if k = 0 then putM (X.map MB.m) ⟨uid, fl, body⟩ else if k = 1 then flM (X.map MB.m) uid mode fl else if k = 2 then remM (X.map MB.m) uid else X.map MB.m from rfl)
  obtain ⟨w1, hw1⟩ : ∃ w1, w1 = (wr.alloc (.cells #[.int .i64 k, .int .u32 uid, .int .u8 fl, .slice A body.length c, .int .i64 mode] 49)).alloc (.cells #[.int .u32 uid, .int .u8 fl, .slice A body.length c] 34) := ⟨_, rfl⟩
  have hn1 : New wr w1 := by rw [hw1]; exact ((New.refl wr).alloc _).alloc _
  have bo1 : Blk w1 wr.heap.size 49 #[.int .i64 k, .int .u32 uid, .int .u8 fl, .slice A body.length c, .int .i64 mode] := by rw [hw1]; exact (Blk.new _ _ _).alloc _
  have bm1 : Blk w1 (wr.heap.size + 1) 34 #[.int .u32 uid, .int .u8 fl, .slice A body.length c] := by rw [hw1]; exact Blk.new1 _ _ _ _
  have hrf := rfind_any (h.own.rd.new hn1) (by omega) uid
  have HRF := Lib.hid hrf
  have HW1 := Lib.hid hw1
  have hfis := findI_is (Y := Y) (k := uid)
  have HWM := Lib.hid (want_m h.eq uid)
  clear hw1 hrf h hb hwf hmode
  rw [hf] at hfis HWM
  have hxq : ((none : Option MB).getD mb0) = mb0 := rfl
  have HX0 : Hid (Rd (intE .u8) w0 (.slice none 0 0) []) := Lib.hid (Rd.nil _ _)
  obtain ⟨r, hr⟩ : ∃ r, findI (Y.map MB.m) uid = r := ⟨_, rfl⟩
  rw [hr] at hfis HRF
  have hfis : decide (0 ≤ r) = false := hfis
  clear hr hf
  have hq0 : (k == 0) = true := by simp [hk0]
  rw [if_pos hk0] at HST
  clear hk0
  go_enter Try.func19, Try.ntmps19
  go_wp2_with fail
  rw [← HW1.out]
  refine HRF.out.mono ?_
  rintro e w2 ⟨rfl, hn2⟩
  have bo2 := hn2.blk bo1
  have bm2 := hn2.blk bm1
  have hsl2 := bm2.lt
  have hsl2' := bo2.lt
  have d0 : w2.cell? ⟨wr.heap.size, 0, none⟩ = some (.int .i64 k) := bo2.cell 0
  have d4 : w2.cell? ⟨wr.heap.size, 4, none⟩ = some (.int .i64 mode) := bo2.cell 4
  have e0 : w2.cell? ⟨wr.heap.size + 1, 0, none⟩ = some (.int .u32 uid) := bm2.cell 0
  have e1 : w2.cell? ⟨wr.heap.size + 1, 1, none⟩ = some (.int .u8 fl) := bm2.cell 1
  have e2 : w2.cell? ⟨wr.heap.size + 1, 2, none⟩ = some (.slice A body.length c) := bm2.cell 2
  have hn3 : New w2 (w2.alloc (.cells #[.int .u32 0, .int .u8 0, .slice none 0 0] 34)) := (New.refl _).alloc _
  have HP3 := Lib.hid (HP.out.more ((hn1.trans hn2).trans hn3))
  have HN3 := Lib.hid ((hn1.trans hn2).trans hn3)
  have bo3 := hn3.blk bo2
  have bm3 := hn3.blk bm2
  have bw3 : Blk (w2.alloc (.cells #[.int .u32 0, .int .u8 0, .slice none 0 0] 34)) w2.heap.size 34 #[.int .u32 0, .int .u8 0, .slice none 0 0] := Blk.new _ _ _
  clear hn3
  go_wp2_with fail
  refine (rput_any HP3.out.own HP3.out.made.bs (by omega) ⟨⟨uid, fl, body⟩, A, body.length, c⟩ (HB.out.new HP3.out.made.new)).mono ?_
  rintro e w4 ⟨u, rfl, ho4, hn4⟩
  obtain ⟨uA, uc, rfl, _⟩ := ho4.form
  have HP4 := Lib.hid (HP3.out.more hn4)
  have bm4 := hn4.blk bm3
  have g0 : w4.cell? ⟨wr.heap.size + 1, 0, none⟩ = some (.int .u32 uid) := bm4.cell 0
  have g1 : w4.cell? ⟨wr.heap.size + 1, 1, none⟩ = some (.int .u8 fl) := bm4.cell 1
  have g2 : w4.cell? ⟨wr.heap.size + 1, 2, none⟩ = some (.slice A body.length c) := bm4.cell 2
  have HO4 := Lib.hid ho4
  have HN4 := Lib.hid (HN3.out.trans hn4)
  clear ho4 hn4
  rw [HP.out.eq]
  go_wp2_with fail
  refine (tput_any HP4.out.made.tbl HP4.out.made.bs (by omega) ⟨⟨uid, fl, body⟩, A, body.length, c⟩ HWF.out (HB.out.new HP4.out.made.new)).mono ?_
  obtain ⟨pc, hpc⟩ : ∃ pc, putC (X.map MB.m) ⟨uid, fl, body⟩ = pc := ⟨_, rfl⟩
  rw [hpc]
  rintro e w5 ⟨rfl, X', hX', hXl', hT5, hf5⟩
  have HM5 := Lib.hid (HP4.out.made.turn hT5 hf5)
  have HO5 := Lib.hid (HP4.out.row HO4.out hf5)
  have HF5 := Lib.hid (Fr.trans (New.to HN4.out) hf5)
  have HX5 := Lib.hid hX'
  clear hT5 hf5 hX' hpc
  go_wp2
  go_ret2
  refine ⟨_, X', putX Y ⟨⟨uid, fl, body⟩, A, body.length, c⟩, by first | (simp; done) | (simp; rfl), ⟨HM5.out, HO5.out, fun y hy => ?_, ?_⟩, by rw [HST.out]; exact HX5.out, hXl', HF5.out⟩
  · unfold putX at hy
    split at hy
    · rcases List.mem_append.1 hy with hy | hy
      · exact HP.out.rd y hy
      · rw [List.mem_singleton.1 hy]; exact HB.out
    · exact HP.out.rd y hy
  · rw [putX_map, HP.out.eq]
    exact HX5.out.symm

end Go.Proofs.Ytjnaihhkbbeaoaa
end

section
/- A call played on a table and on the reference: one way. -/
namespace Go.Proofs.Ytjnaihhkbbeaoaa
open Go.RowKit

set_option maxRecDepth 100000 in
set_option maxHeartbeats 1600000 in
theorem play_n1 {w0 wr : World} {base : Nat} {T : Tb} {X : List MB} {v : Value} {Y : List MB} (h : PS w0 wr base T X v Y) (hX : X.length ≤ 1000) (o : SOp) (ho : o.inn w0) (hf : findX Y o.x.m.uid = none) (hk0 : o.k ≠ 0) (hk1 : o.k = 1) :
    Calls Try.prog 19 #[.pointer (some ⟨T.tb, 0, none⟩), v, o.val] wr fun e w' => ∃ v' X' Y', e = .returned (.tuple #[v', .bool true]) ∧ PS w0 w' base T X' v' Y' ∧ X'.map MB.m = stepM (X.map MB.m) o ∧ X'.length ≤ X.length + 1 ∧ Fr T.foot wr w' := by
  obtain ⟨_, ⟨hwf, hb, _⟩, hmode⟩ := ho
  have hxn := MB.len_eq hb
  obtain ⟨k, ⟨⟨uid, fl, body⟩, A, n, c⟩, mode⟩ := o
  dsimp only at hxn hf hk0 hk1
  subst hxn
  simp only [SOp.val]
  have HB := Lib.hid hb
  have HWF := Lib.hid hwf
  have HMD := Lib.hid hmode
  have huid0 := hwf.1.1
  have huid1 := hwf.1.2
  have hfl := hwf.2
  dsimp only at huid0 huid1 hfl
  obtain ⟨vA, vc, rfl, _⟩ := h.own.form
  have hYl : Y.length ≤ 1000 := by have := h.len; omega
  have HP := Lib.hid h
  have HST := Lib.hid (show stepM (X.map MB.m) ⟨k, ⟨⟨uid, fl, body⟩, A, body.length, c⟩, mode⟩ = if k = 0 then putM (X.map MB.m) ⟨uid, fl, body⟩ else if k = 1 then flM (X.map MB.m) uid mode fl else if k = 2 then remM (X.map MB.m) uid else X.map MB.m from rfl)
  obtain ⟨w1, hw1⟩ : ∃ w1, w1 = (wr.alloc (.cells #[.int .i64 k, .int .u32 uid, .int .u8 fl, .slice A body.length c, .int .i64 mode] 49)).alloc (.cells #[.int .u32 uid, .int .u8 fl, .slice A body.length c] 34) := ⟨_, rfl⟩
  have hn1 : New wr w1 := by rw [hw1]; exact ((New.refl wr).alloc _).alloc _
  have bo1 : Blk w1 wr.heap.size 49 #[.int .i64 k, .int .u32 uid, .int .u8 fl, .slice A body.length c, .int .i64 mode] := by rw [hw1]; exact (Blk.new _ _ _).alloc _
  have bm1 : Blk w1 (wr.heap.size + 1) 34 #[.int .u32 uid, .int .u8 fl, .slice A body.length c] := by rw [hw1]; exact Blk.new1 _ _ _ _
  have hrf := rfind_any (h.own.rd.new hn1) (by omega) uid
  have HRF := Lib.hid hrf
  have HW1 := Lib.hid hw1
  have hfis := findI_is (Y := Y) (k := uid)
  have HWM := Lib.hid (want_m h.eq uid)
  clear hw1 hrf h hb hwf hmode
  rw [hf] at hfis HWM
  have hxq : ((none : Option MB).getD mb0) = mb0 := rfl
  have HX0 : Hid (Rd (intE .u8) w0 (.slice none 0 0) []) := Lib.hid (Rd.nil _ _)
  obtain ⟨r, hr⟩ : ∃ r, findI (Y.map MB.m) uid = r := ⟨_, rfl⟩
  rw [hr] at hfis HRF
  have hfis : decide (0 ≤ r) = false := hfis
  clear hr hf
  have hq0 : (k == 0) = false := by simp [hk0]
  rw [if_neg hk0] at HST
  have hq1 : (k == 1) = true := by simp [hk1]
  rw [if_pos hk1] at HST
  clear hk0 hk1
  go_enter Try.func19, Try.ntmps19
  go_wp2_with fail
  rw [← HW1.out]
  refine HRF.out.mono ?_
  rintro e w2 ⟨rfl, hn2⟩
  have bo2 := hn2.blk bo1
  have bm2 := hn2.blk bm1
  have hsl2 := bm2.lt
  have hsl2' := bo2.lt
  have d0 : w2.cell? ⟨wr.heap.size, 0, none⟩ = some (.int .i64 k) := bo2.cell 0
  have d4 : w2.cell? ⟨wr.heap.size, 4, none⟩ = some (.int .i64 mode) := bo2.cell 4
  have e0 : w2.cell? ⟨wr.heap.size + 1, 0, none⟩ = some (.int .u32 uid) := bm2.cell 0
  have e1 : w2.cell? ⟨wr.heap.size + 1, 1, none⟩ = some (.int .u8 fl) := bm2.cell 1
  have e2 : w2.cell? ⟨wr.heap.size + 1, 2, none⟩ = some (.slice A body.length c) := bm2.cell 2
  have hn3 : New w2 (w2.alloc (.cells #[.int .u32 0, .int .u8 0, .slice none 0 0] 34)) := (New.refl _).alloc _
  have HP3 := Lib.hid (HP.out.more ((hn1.trans hn2).trans hn3))
  have HN3 := Lib.hid ((hn1.trans hn2).trans hn3)
  have bo3 := hn3.blk bo2
  have bm3 := hn3.blk bm2
  have bw3 : Blk (w2.alloc (.cells #[.int .u32 0, .int .u8 0, .slice none 0 0] 34)) w2.heap.size 34 #[.int .u32 0, .int .u8 0, .slice none 0 0] := Blk.new _ _ _
  clear hn3
  go_wp2_with fail
  refine (rflags_any HP3.out.own HP3.out.made.bs (by omega) HP.out.nd (fun y hy => by have := (HP.out.ok y hy).2; omega) uid mode fl hfl).mono ?_
  rintro e w4 ⟨u, rfl, ho4, hn4⟩
  obtain ⟨uA, uc, rfl, _⟩ := ho4.form
  have HP4 := Lib.hid (HP3.out.more hn4)
  have bm4 := hn4.blk bm3
  have bo4 := hn4.blk bo3
  have g0 : w4.cell? ⟨wr.heap.size + 1, 0, none⟩ = some (.int .u32 uid) := bm4.cell 0
  have g1 : w4.cell? ⟨wr.heap.size + 1, 1, none⟩ = some (.int .u8 fl) := bm4.cell 1
  have g4 : w4.cell? ⟨wr.heap.size, 4, none⟩ = some (.int .i64 mode) := bo4.cell 4
  have HO4 := Lib.hid ho4
  have HN4 := Lib.hid (HN3.out.trans hn4)
  clear ho4 hn4
  rw [HP.out.eq]
  go_wp2_with fail
  refine (tflags_any HP4.out.made.tbl (by omega) uid mode fl huid0 huid1 hfl HMD.out).mono ?_
  obtain ⟨pc, hpc⟩ : ∃ pc, flC (X.map MB.m) uid mode fl = pc := ⟨_, rfl⟩
  obtain ⟨px, hpx⟩ : ∃ px, flX (X.map MB.m) uid mode fl = px := ⟨_, rfl⟩
  have hpxb : 0 ≤ px ∧ px ≤ 255 := by
    rw [← hpx]
    unfold flX
    split
    · omega
    · rename_i m hm
      cases hc : chg m.fl mode fl with
      | none => simp
      | some z => have := chg_ok hc hfl.1; simp; omega
  have hpw : IntKind.i64.wrap px = px := IntWalk.i64_in _ (by omega)
  rw [hpc, hpx]
  rintro e w5 ⟨rfl, X', hX', hXl', hT5, hf5⟩
  have HM5 := Lib.hid (HP4.out.made.turn hT5 hf5)
  have HO5 := Lib.hid (HP4.out.row HO4.out hf5)
  have HF5 := Lib.hid (Fr.trans (New.to HN4.out) hf5)
  have HX5 := Lib.hid hX'
  clear hT5 hf5 hX' hpc hpx
  go_wp2
  go_ret2
  refine ⟨_, X', flsX Y uid mode fl, by first | (simp; done) | (simp; rfl), ⟨HM5.out, HO5.out, fun y hy => ?_, ?_⟩, by rw [HST.out]; exact HX5.out, by omega, HF5.out⟩
  · unfold flsX at hy
    split at hy
    · unfold setX at hy
      obtain ⟨z, hz, rfl⟩ := List.mem_map.1 hy
      have h9 := HP.out.rd z hz
      split <;> exact h9
    · exact HP.out.rd y hy
  · rw [flsX_map, HP.out.eq]
    exact HX5.out.symm

end Go.Proofs.Ytjnaihhkbbeaoaa
end

section
/- A call played on a table and on the reference: one way. -/
namespace Go.Proofs.Ytjnaihhkbbeaoaa
open Go.RowKit

set_option maxRecDepth 100000 in
set_option maxHeartbeats 1600000 in
theorem play_n2 {w0 wr : World} {base : Nat} {T : Tb} {X : List MB} {v : Value} {Y : List MB} (h : PS w0 wr base T X v Y) (hX : X.length ≤ 1000) (o : SOp) (ho : o.inn w0) (hf : findX Y o.x.m.uid = none) (hk0 : o.k ≠ 0) (hk1 : o.k ≠ 1) (hk2 : o.k = 2) :
    Calls Try.prog 19 #[.pointer (some ⟨T.tb, 0, none⟩), v, o.val] wr fun e w' => ∃ v' X' Y', e = .returned (.tuple #[v', .bool true]) ∧ PS w0 w' base T X' v' Y' ∧ X'.map MB.m = stepM (X.map MB.m) o ∧ X'.length ≤ X.length + 1 ∧ Fr T.foot wr w' := by
  obtain ⟨_, ⟨hwf, hb, _⟩, hmode⟩ := ho
  have hxn := MB.len_eq hb
  obtain ⟨k, ⟨⟨uid, fl, body⟩, A, n, c⟩, mode⟩ := o
  dsimp only at hxn hf hk0 hk1 hk2
  subst hxn
  simp only [SOp.val]
  have HB := Lib.hid hb
  have HWF := Lib.hid hwf
  have HMD := Lib.hid hmode
  have huid0 := hwf.1.1
  have huid1 := hwf.1.2
  have hfl := hwf.2
  dsimp only at huid0 huid1 hfl
  obtain ⟨vA, vc, rfl, _⟩ := h.own.form
  have hYl : Y.length ≤ 1000 := by have := h.len; omega
  have HP := Lib.hid h
  have HST := Lib.hid (show stepM (X.map MB.m) ⟨k, ⟨⟨uid, fl, body⟩, A, body.length, c⟩, mode⟩ = if k = 0 then putM (X.map MB.m) ⟨uid, fl, body⟩ else if k = 1 then flM (X.map MB.m) uid mode fl else if k = 2 then remM (X.map MB.m) uid else X.map MB.m from rfl)
  obtain ⟨w1, hw1⟩ : ∃ w1, w1 = (wr.alloc (.cells #[.int .i64 k, .int .u32 uid, .int .u8 fl, .slice A body.length c, .int .i64 mode] 49)).alloc (.cells #[.int .u32 uid, .int .u8 fl, .slice A body.length c] 34) := ⟨_, rfl⟩
  have hn1 : New wr w1 := by rw [hw1]; exact ((New.refl wr).alloc _).alloc _
  have bo1 : Blk w1 wr.heap.size 49 #[.int .i64 k, .int .u32 uid, .int .u8 fl, .slice A body.length c, .int .i64 mode] := by rw [hw1]; exact (Blk.new _ _ _).alloc _
  have bm1 : Blk w1 (wr.heap.size + 1) 34 #[.int .u32 uid, .int .u8 fl, .slice A body.length c] := by rw [hw1]; exact Blk.new1 _ _ _ _
  have hrf := rfind_any (h.own.rd.new hn1) (by omega) uid
  have HRF := Lib.hid hrf
  have HW1 := Lib.hid hw1
  have hfis := findI_is (Y := Y) (k := uid)
  have HWM := Lib.hid (want_m h.eq uid)
  clear hw1 hrf h hb hwf hmode
  rw [hf] at hfis HWM
  have hxq : ((none : Option MB).getD mb0) = mb0 := rfl
  have HX0 : Hid (Rd (intE .u8) w0 (.slice none 0 0) []) := Lib.hid (Rd.nil _ _)
  obtain ⟨r, hr⟩ : ∃ r, findI (Y.map MB.m) uid = r := ⟨_, rfl⟩
  rw [hr] at hfis HRF
  have hfis : decide (0 ≤ r) = false := hfis
  clear hr hf
  have hq0 : (k == 0) = false := by simp [hk0]
  rw [if_neg hk0] at HST
  have hq1 : (k == 1) = false := by simp [hk1]
  rw [if_neg hk1] at HST
  have hq2 : (k == 2) = true := by simp [hk2]
  rw [if_pos hk2] at HST
  clear hk0 hk1 hk2
  go_enter Try.func19, Try.ntmps19
  go_wp2_with fail
  rw [← HW1.out]
  refine HRF.out.mono ?_
  rintro e w2 ⟨rfl, hn2⟩
  have bo2 := hn2.blk bo1
  have bm2 := hn2.blk bm1
  have hsl2 := bm2.lt
  have hsl2' := bo2.lt
  have d0 : w2.cell? ⟨wr.heap.size, 0, none⟩ = some (.int .i64 k) := bo2.cell 0
  have d4 : w2.cell? ⟨wr.heap.size, 4, none⟩ = some (.int .i64 mode) := bo2.cell 4
  have e0 : w2.cell? ⟨wr.heap.size + 1, 0, none⟩ = some (.int .u32 uid) := bm2.cell 0
  have e1 : w2.cell? ⟨wr.heap.size + 1, 1, none⟩ = some (.int .u8 fl) := bm2.cell 1
  have e2 : w2.cell? ⟨wr.heap.size + 1, 2, none⟩ = some (.slice A body.length c) := bm2.cell 2
  have hn3 : New w2 (w2.alloc (.cells #[.int .u32 0, .int .u8 0, .slice none 0 0] 34)) := (New.refl _).alloc _
  have HP3 := Lib.hid (HP.out.more ((hn1.trans hn2).trans hn3))
  have HN3 := Lib.hid ((hn1.trans hn2).trans hn3)
  have bo3 := hn3.blk bo2
  have bm3 := hn3.blk bm2
  have bw3 : Blk (w2.alloc (.cells #[.int .u32 0, .int .u8 0, .slice none 0 0] 34)) w2.heap.size 34 #[.int .u32 0, .int .u8 0, .slice none 0 0] := Blk.new _ _ _
  clear hn3
  have hg := tremove_any HP3.out.made.tbl HP3.out.made.hi uid huid0 huid1
  have hwm := HWM.out
  obtain ⟨z, hz⟩ : ∃ z, (findX X uid).getD mb0 = z := ⟨_, rfl⟩
  rw [hwm.2, hz] at hg
  rw [hz] at hwm
  have HG := Lib.hid hg
  have HZM := Lib.hid hwm.1
  clear hg hwm hz
  obtain ⟨⟨zu, zf, zb⟩, zA, zn, zc⟩ := z
  simp only [MB.val, MB.bv] at HG
  go_wp2_with fail
  refine HG.out.mono ?_
  rintro e w4 ⟨rfl, hzr, hT4, hf4⟩
  have HM4 := Lib.hid (HP3.out.made.turn hT4 hf4)
  have HO4 := Lib.hid (HP3.out.row HP3.out.own hf4)
  have HF4 := Lib.hid (Fr.trans (New.to HN3.out) hf4)
  have hhi := HP.out.made.hi
  have hbs := HP.out.made.bs
  have bm4 := hf4.blk bm3 (fun hs => by have := hs.2; omega)
  have bw4 := hf4.blk bw3 (fun hs => by have := hs.2; omega)
  have HZR := Lib.hid hzr
  have g0 : w4.cell? ⟨wr.heap.size + 1, 0, none⟩ = some (.int .u32 uid) := bm4.cell 0
  have hl1 := bm4.lt
  have hl2 := bw4.lt
  clear hT4 hf4 hzr bm3 bw3 HG
  go_wp2_with fail
  refine (rrem_any ((HO4.out.rd).alloc (.cells #[.int .u32 zu, .int .u8 zf, .slice zA zn zc] 34)) (by omega) uid).mono ?_
  rintro e w5 ⟨u, rfl, ho5, hn5⟩
  obtain ⟨uA, uc, rfl, _⟩ := ho5.form
  have bw5 := hn5.blk (bw4.alloc _)
  have bz5 := hn5.blk (Blk.new w4 34 #[.int .u32 zu, .int .u8 zf, .slice zA zn zc])
  have y0 : w5.cell? ⟨w4.heap.size, 0, none⟩ = some (.int .u32 zu) := bz5.cell 0
  have y1 : w5.cell? ⟨w4.heap.size, 1, none⟩ = some (.int .u8 zf) := bz5.cell 1
  have y2 : w5.cell? ⟨w4.heap.size, 2, none⟩ = some (.slice zA zn zc) := bz5.cell 2
  have q0 : w5.cell? ⟨w2.heap.size, 0, none⟩ = some (.int .u32 0) := bw5.cell 0
  have q1 : w5.cell? ⟨w2.heap.size, 1, none⟩ = some (.int .u8 0) := bw5.cell 1
  have q2 : w5.cell? ⟨w2.heap.size, 2, none⟩ = some (.slice none 0 0) := bw5.cell 2
  have HN5 : Hid (New w4 w5) := Lib.hid (((New.refl w4).alloc _).trans hn5)
  have hs45 := HN5.out.size
  have HO5 := Lib.hid ho5
  have hb45 : base ≤ (w4.alloc (.cells #[.int .u32 zu, .int .u8 zf, .slice zA zn zc] 34)).heap.size := by have := HM4.out.bs; simp; omega
  clear ho5 hn5
  go_wp2_with fail
  refine (rsame_any ⟨⟨zu, zf, zb⟩, zA, zn, zc⟩ (⟨⟨0, 0, []⟩, none, 0, 0⟩ : MB) _ (HZR.out.new HN5.out) (HX0.out.new (HM4.out.new.trans HN5.out)) (by first | exact HZM.out | simpa using HZM.out)).mono ?_
  rintro e w6 ⟨rfl, hn6⟩
  go_wp2
  go_ret2
  refine ⟨_, remX X uid, remX Y uid, by first | (simp; done) | (simp; rfl), ⟨HM4.out.more (HN5.out.trans hn6), (HO5.out.mono hb45).new hn6, fun y hy => HP.out.rd y (List.mem_filter.1 hy).1, ?_⟩, by rw [HST.out]; exact remX_map _ _, Nat.le_trans (List.length_filter_le _ _) (by omega), Fr.trans HF4.out (New.to (HN5.out.trans hn6))⟩
  rw [remX_map, remX_map, HP.out.eq]

end Go.Proofs.Ytjnaihhkbbeaoaa
end

section
/- A call played on a table and on the reference: one way. -/
namespace Go.Proofs.Ytjnaihhkbbeaoaa
open Go.RowKit

set_option maxRecDepth 100000 in
set_option maxHeartbeats 1600000 in
theorem play_n3 {w0 wr : World} {base : Nat} {T : Tb} {X : List MB} {v : Value} {Y : List MB} (h : PS w0 wr base T X v Y) (hX : X.length ≤ 1000) (o : SOp) (ho : o.inn w0) (hf : findX Y o.x.m.uid = none) (hk0 : o.k ≠ 0) (hk1 : o.k ≠ 1) (hk2 : o.k ≠ 2) :
    Calls Try.prog 19 #[.pointer (some ⟨T.tb, 0, none⟩), v, o.val] wr fun e w' => ∃ v' X' Y', e = .returned (.tuple #[v', .bool true]) ∧ PS w0 w' base T X' v' Y' ∧ X'.map MB.m = stepM (X.map MB.m) o ∧ X'.length ≤ X.length + 1 ∧ Fr T.foot wr w' := by
  obtain ⟨_, ⟨hwf, hb, _⟩, hmode⟩ := ho
  have hxn := MB.len_eq hb
  obtain ⟨k, ⟨⟨uid, fl, body⟩, A, n, c⟩, mode⟩ := o
  dsimp only at hxn hf hk0 hk1 hk2
  subst hxn
  simp only [SOp.val]
  have HB := Lib.hid hb
  have HWF := Lib.hid hwf
  have HMD := Lib.hid hmode
  have huid0 := hwf.1.1
  have huid1 := hwf.1.2
  have hfl := hwf.2
  dsimp only at huid0 huid1 hfl
  obtain ⟨vA, vc, rfl, _⟩ := h.own.form
  have hYl : Y.length ≤ 1000 := by have := h.len; omega
  have HP := Lib.hid h
  have HST := Lib.hid (show stepM (X.map MB.m) ⟨k, ⟨⟨uid, fl, body⟩, A, body.length, c⟩, mode⟩ = if k = 0 then putM (X.map MB.m) ⟨uid, fl, body⟩ else if k = 1 then flM (X.map MB.m) uid mode fl else if k = 2 then remM (X.map MB.m) uid else X.map MB.m from rfl)
  obtain ⟨w1, hw1⟩ : ∃ w1, w1 = (wr.alloc (.cells #[.int .i64 k, .int .u32 uid, .int .u8 fl, .slice A body.length c, .int .i64 mode] 49)).alloc (.cells #[.int .u32 uid, .int .u8 fl, .slice A body.length c] 34) := ⟨_, rfl⟩
  have hn1 : New wr w1 := by rw [hw1]; exact ((New.refl wr).alloc _).alloc _
  have bo1 : Blk w1 wr.heap.size 49 #[.int .i64 k, .int .u32 uid, .int .u8 fl, .slice A body.length c, .int .i64 mode] := by rw [hw1]; exact (Blk.new _ _ _).alloc _
  have bm1 : Blk w1 (wr.heap.size + 1) 34 #[.int .u32 uid, .int .u8 fl, .slice A body.length c] := by rw [hw1]; exact Blk.new1 _ _ _ _
  have hrf := rfind_any (h.own.rd.new hn1) (by omega) uid
  have HRF := Lib.hid hrf
  have HW1 := Lib.hid hw1
  have hfis := findI_is (Y := Y) (k := uid)
  have HWM := Lib.hid (want_m h.eq uid)
  clear hw1 hrf h hb hwf hmode
  rw [hf] at hfis HWM
  have hxq : ((none : Option MB).getD mb0) = mb0 := rfl
  have HX0 : Hid (Rd (intE .u8) w0 (.slice none 0 0) []) := Lib.hid (Rd.nil _ _)
  obtain ⟨r, hr⟩ : ∃ r, findI (Y.map MB.m) uid = r := ⟨_, rfl⟩
  rw [hr] at hfis HRF
  have hfis : decide (0 ≤ r) = false := hfis
  clear hr hf
  have hq0 : (k == 0) = false := by simp [hk0]
  rw [if_neg hk0] at HST
  have hq1 : (k == 1) = false := by simp [hk1]
  rw [if_neg hk1] at HST
  have hq2 : (k == 2) = false := by simp [hk2]
  rw [if_neg hk2] at HST
  clear hk0 hk1 hk2
  go_enter Try.func19, Try.ntmps19
  go_wp2_with fail
  rw [← HW1.out]
  refine HRF.out.mono ?_
  rintro e w2 ⟨rfl, hn2⟩
  have bo2 := hn2.blk bo1
  have bm2 := hn2.blk bm1
  have hsl2 := bm2.lt
  have hsl2' := bo2.lt
  have d0 : w2.cell? ⟨wr.heap.size, 0, none⟩ = some (.int .i64 k) := bo2.cell 0
  have d4 : w2.cell? ⟨wr.heap.size, 4, none⟩ = some (.int .i64 mode) := bo2.cell 4
  have e0 : w2.cell? ⟨wr.heap.size + 1, 0, none⟩ = some (.int .u32 uid) := bm2.cell 0
  have e1 : w2.cell? ⟨wr.heap.size + 1, 1, none⟩ = some (.int .u8 fl) := bm2.cell 1
  have e2 : w2.cell? ⟨wr.heap.size + 1, 2, none⟩ = some (.slice A body.length c) := bm2.cell 2
  have hn3 : New w2 (w2.alloc (.cells #[.int .u32 0, .int .u8 0, .slice none 0 0] 34)) := (New.refl _).alloc _
  have HP3 := Lib.hid (HP.out.more ((hn1.trans hn2).trans hn3))
  have HN3 := Lib.hid ((hn1.trans hn2).trans hn3)
  have bo3 := hn3.blk bo2
  have bm3 := hn3.blk bm2
  have bw3 : Blk (w2.alloc (.cells #[.int .u32 0, .int .u8 0, .slice none 0 0] 34)) w2.heap.size 34 #[.int .u32 0, .int .u8 0, .slice none 0 0] := Blk.new _ _ _
  clear hn3
  have hg := tget_any HP3.out.made.tbl uid huid0 huid1
  have hwm := HWM.out
  obtain ⟨z, hz⟩ : ∃ z, (findX X uid).getD mb0 = z := ⟨_, rfl⟩
  rw [hwm.2, hz] at hg
  rw [hz] at hwm
  have HG := Lib.hid hg
  have HZM := Lib.hid hwm.1
  clear hg hwm hz
  go_wp2_with fail
  refine HG.out.mono ?_
  rintro e w4 ⟨⟨⟨zu, zf, zb⟩, zA, zn, zc⟩, rfl, hyz, hzr, hT4, hf4⟩
  simp only [MB.val, MB.bv] at hyz hzr ⊢
  have HM4 := Lib.hid (HP3.out.made.turn hT4 hf4)
  have HO4 := Lib.hid (HP3.out.row HP3.out.own hf4)
  have HF4 := Lib.hid (Fr.trans (New.to HN3.out) hf4)
  have hhi := HP.out.made.hi
  have hbs := HP.out.made.bs
  have bw4 := hf4.blk bw3 (fun hs => by have := hs.2; omega)
  have HZR := Lib.hid hzr.rd
  have HZ2 := Lib.hid (hyz.trans HZM.out)
  have hl2 := bw4.lt
  have bz5 := Blk.new w4 34 #[.int .u32 zu, .int .u8 zf, .slice zA zn zc]
  have bw5 := bw4.alloc (.cells #[.int .u32 zu, .int .u8 zf, .slice zA zn zc] 34)
  have HN5 : Hid (New w4 (w4.alloc (.cells #[.int .u32 zu, .int .u8 zf, .slice zA zn zc] 34))) := Lib.hid ((New.refl w4).alloc _)
  have q0 : w4.cell? ⟨w2.heap.size, 0, none⟩ = some (.int .u32 0) := bw4.cell 0
  have q1 : w4.cell? ⟨w2.heap.size, 1, none⟩ = some (.int .u8 0) := bw4.cell 1
  have q2 : w4.cell? ⟨w2.heap.size, 2, none⟩ = some (.slice none 0 0) := bw4.cell 2
  clear hT4 hf4 hzr bm3 bw3 HG hyz
  go_wp2_with fail
  refine (rsame_any ⟨⟨zu, zf, zb⟩, zA, zn, zc⟩ (⟨⟨0, 0, []⟩, none, 0, 0⟩ : MB) _ (HZR.out.new HN5.out) (HX0.out.new (HM4.out.new.trans HN5.out)) (by first | exact HZ2.out | simpa using HZ2.out)).mono ?_
  rintro e w6 ⟨rfl, hn6⟩
  go_wp2
  go_ret2
  exact ⟨_, X, Y, by first | (simp; done) | (simp; rfl), ⟨HM4.out.more (HN5.out.trans hn6), (HO4.out.new HN5.out).new hn6, HP.out.rd, HP.out.eq⟩, by rw [HST.out], by omega, Fr.trans HF4.out (New.to (HN5.out.trans hn6))⟩

end Go.Proofs.Ytjnaihhkbbeaoaa
end

section
/- A call played on a table and on the reference: one way. -/
namespace Go.Proofs.Ytjnaihhkbbeaoaa
open Go.RowKit

set_option maxRecDepth 100000 in
set_option maxHeartbeats 1600000 in
theorem play_s0 {w0 wr : World} {base : Nat} {T : Tb} {X : List MB} {v : Value} {Y : List MB} (h : PS w0 wr base T X v Y) (hX : X.length ≤ 1000) (o : SOp) (ho : o.inn w0) (xw : MB) (hf : findX Y o.x.m.uid = some xw) (hk0 : o.k = 0) :
    Calls Try.prog 19 #[.pointer (some ⟨T.tb, 0, none⟩), v, o.val] wr fun e w' => ∃ v' X' Y', e = .returned (.tuple #[v', .bool true]) ∧ PS w0 w' base T X' v' Y' ∧ X'.map MB.m = stepM (X.map MB.m) o ∧ X'.length ≤ X.length + 1 ∧ Fr T.foot wr w' := by
  obtain ⟨_, ⟨hwf, hb, _⟩, hmode⟩ := ho
  have hxn := MB.len_eq hb
  obtain ⟨k, ⟨⟨uid, fl, body⟩, A, n, c⟩, mode⟩ := o
  dsimp only at hxn hf hk0
  subst hxn
  simp only [SOp.val]
  have HB := Lib.hid hb
  have HWF := Lib.hid hwf
  have HMD := Lib.hid hmode
  have huid0 := hwf.1.1
  have huid1 := hwf.1.2
  have hfl := hwf.2
  dsimp only at huid0 huid1 hfl
  obtain ⟨vA, vc, rfl, _⟩ := h.own.form
  have hYl : Y.length ≤ 1000 := by have := h.len; omega
  have HP := Lib.hid h
  have HST := Lib.hid (show stepM (X.map MB.m) ⟨k, ⟨⟨uid, fl, body⟩, A, body.length, c⟩, mode⟩ = if k = 0 then putM (X.map MB.m) ⟨uid, fl, body⟩ else if k = 1 then flM (X.map MB.m) uid mode fl else if k = 2 then remM (X.map MB.m) uid else X.map MB.m from rfl)
  obtain ⟨w1, hw1⟩ : ∃ w1, w1 = (wr.alloc (.cells #[.int .i64 k, .int .u32 uid, .int .u8 fl, .slice A body.length c, .int .i64 mode] 49)).alloc (.cells #[.int .u32 uid, .int .u8 fl, .slice A body.length c] 34) := ⟨_, rfl⟩
  have hn1 : New wr w1 := by rw [hw1]; exact ((New.refl wr).alloc _).alloc _
  have bo1 : Blk w1 wr.heap.size 49 #[.int .i64 k, .int .u32 uid, .int .u8 fl, .slice A body.length c, .int .i64 mode] := by rw [hw1]; exact (Blk.new _ _ _).alloc _
  have bm1 : Blk w1 (wr.heap.size + 1) 34 #[.int .u32 uid, .int .u8 fl, .slice A body.length c] := by rw [hw1]; exact Blk.new1 _ _ _ _
  have hrf := rfind_any (h.own.rd.new hn1) (by omega) uid
  have HRF := Lib.hid hrf
  have HW1 := Lib.hid hw1
  have hfis := findI_is (Y := Y) (k := uid)
  have HWM := Lib.hid (want_m h.eq uid)
  clear hw1 hrf h hb hwf hmode
  rw [hf] at hfis HWM
  have hxw := findX_mem hf
  have HX0 := Lib.hid (HP.out.rd xw hxw.1)
  obtain ⟨i, hr⟩ : ∃ i : Nat, findI (Y.map MB.m) uid = i := ⟨(findI (Y.map MB.m) uid).toNat, by have : 0 ≤ findI (Y.map MB.m) uid := by simpa using hfis
                                                                                                omega⟩
  obtain ⟨xw', hxi, hxiu, hxf⟩ := findI_x hr
  rw [hf] at hxf
  injection hxf with hxf
  subst hxf
  have hil := (List.getElem?_eq_some_iff.1 hxi).1
  rw [hr] at hfis HRF
  have hfis : decide (0 ≤ (i : Int)) = true := hfis
  obtain ⟨g, rfl⟩ := HP.out.own.some_ (by omega)
  have hiI : (i : Int) < Y.length := by omega
  have hi0 : (0 : Int) ≤ i := by omega
  have HCR := Lib.hid (fun (w' : World) (hn : New wr w') (j : Nat) (u : Value) (hu : (mbE.enc xw)[j]? = some u) => (Fr.cell hn (HP.out.own.cell_at hxi hu) id : w'.cell? ⟨g, i * 3 + j, none⟩ = some u))
  obtain ⟨⟨xu, xf, xb⟩, xA, xn, xc⟩ := xw
  simp only [MB.bv] at HX0
  clear hr hf hxi hxiu hxw hil
  have hq0 : (k == 0) = true := by simp [hk0]
  rw [if_pos hk0] at HST
  clear hk0
  go_enter Try.func19, Try.ntmps19
  go_wp2_with fail
  rw [← HW1.out]
  refine HRF.out.mono ?_
  rintro e w2 ⟨rfl, hn2⟩
  have hc0 := HCR.out w2 (hn1.trans hn2) 0 _ rfl
  have hc1 := HCR.out w2 (hn1.trans hn2) 1 _ rfl
  have hc2 := HCR.out w2 (hn1.trans hn2) 2 _ rfl
  have hc0 : w2.cell? ⟨g, i * 3, none⟩ = some (.int .u32 xu) := hc0
  have hc1 : w2.cell? ⟨g, i * 3 + 1, none⟩ = some (.int .u8 xf) := hc1
  have hc2 : w2.cell? ⟨g, i * 3 + 2, none⟩ = some (.slice xA xn xc) := hc2
  have hgl := World.block_lt_of_cell? w2 _ hc0
  simp only at hgl
  have bo2 := hn2.blk bo1
  have bm2 := hn2.blk bm1
  have hsl2 := bm2.lt
  have hsl2' := bo2.lt
  have d0 : w2.cell? ⟨wr.heap.size, 0, none⟩ = some (.int .i64 k) := bo2.cell 0
  have d4 : w2.cell? ⟨wr.heap.size, 4, none⟩ = some (.int .i64 mode) := bo2.cell 4
  have e0 : w2.cell? ⟨wr.heap.size + 1, 0, none⟩ = some (.int .u32 uid) := bm2.cell 0
  have e1 : w2.cell? ⟨wr.heap.size + 1, 1, none⟩ = some (.int .u8 fl) := bm2.cell 1
  have e2 : w2.cell? ⟨wr.heap.size + 1, 2, none⟩ = some (.slice A body.length c) := bm2.cell 2
  have hn3 : New w2 (w2.alloc (.cells #[.int .u32 xu, .int .u8 xf, .slice xA xn xc] 34)) := (New.refl _).alloc _
  have HP3 := Lib.hid (HP.out.more ((hn1.trans hn2).trans hn3))
  have HN3 := Lib.hid ((hn1.trans hn2).trans hn3)
  have bo3 := hn3.blk bo2
  have bm3 := hn3.blk bm2
  have bw3 : Blk (w2.alloc (.cells #[.int .u32 xu, .int .u8 xf, .slice xA xn xc] 34)) w2.heap.size 34 #[.int .u32 xu, .int .u8 xf, .slice xA xn xc] := Blk.new _ _ _
  clear hn3
  go_wp2_with fail
  refine (rput_any HP3.out.own HP3.out.made.bs (by omega) ⟨⟨uid, fl, body⟩, A, body.length, c⟩ (HB.out.new HP3.out.made.new)).mono ?_
  rintro e w4 ⟨u, rfl, ho4, hn4⟩
  obtain ⟨uA, uc, rfl, _⟩ := ho4.form
  have HP4 := Lib.hid (HP3.out.more hn4)
  have bm4 := hn4.blk bm3
  have g0 : w4.cell? ⟨wr.heap.size + 1, 0, none⟩ = some (.int .u32 uid) := bm4.cell 0
  have g1 : w4.cell? ⟨wr.heap.size + 1, 1, none⟩ = some (.int .u8 fl) := bm4.cell 1
  have g2 : w4.cell? ⟨wr.heap.size + 1, 2, none⟩ = some (.slice A body.length c) := bm4.cell 2
  have HO4 := Lib.hid ho4
  have HN4 := Lib.hid (HN3.out.trans hn4)
  clear ho4 hn4
  rw [HP.out.eq]
  go_wp2_with fail
  refine (tput_any HP4.out.made.tbl HP4.out.made.bs (by omega) ⟨⟨uid, fl, body⟩, A, body.length, c⟩ HWF.out (HB.out.new HP4.out.made.new)).mono ?_
  obtain ⟨pc, hpc⟩ : ∃ pc, putC (X.map MB.m) ⟨uid, fl, body⟩ = pc := ⟨_, rfl⟩
  rw [hpc]
  rintro e w5 ⟨rfl, X', hX', hXl', hT5, hf5⟩
  have HM5 := Lib.hid (HP4.out.made.turn hT5 hf5)
  have HO5 := Lib.hid (HP4.out.row HO4.out hf5)
  have HF5 := Lib.hid (Fr.trans (New.to HN4.out) hf5)
  have HX5 := Lib.hid hX'
  clear hT5 hf5 hX' hpc
  go_wp2
  go_ret2
  refine ⟨_, X', putX Y ⟨⟨uid, fl, body⟩, A, body.length, c⟩, by first | (simp; done) | (simp; rfl), ⟨HM5.out, HO5.out, fun y hy => ?_, ?_⟩, by rw [HST.out]; exact HX5.out, hXl', HF5.out⟩
  · unfold putX at hy
    split at hy
    · rcases List.mem_append.1 hy with hy | hy
      · exact HP.out.rd y hy
      · rw [List.mem_singleton.1 hy]; exact HB.out
    · exact HP.out.rd y hy
  · rw [putX_map, HP.out.eq]
    exact HX5.out.symm

end Go.Proofs.Ytjnaihhkbbeaoaa
end

section
/- A call played on a table and on the reference: one way. -/
namespace Go.Proofs.Ytjnaihhkbbeaoaa
open Go.RowKit

set_option maxRecDepth 100000 in
set_option maxHeartbeats 1600000 in
theorem play_s1 {w0 wr : World} {base : Nat} {T : Tb} {X : List MB} {v : Value} {Y : List MB} (h : PS w0 wr base T X v Y) (hX : X.length ≤ 1000) (o : SOp) (ho : o.inn w0) (xw : MB) (hf : findX Y o.x.m.uid = some xw) (hk0 : o.k ≠ 0) (hk1 : o.k = 1) :
    Calls Try.prog 19 #[.pointer (some ⟨T.tb, 0, none⟩), v, o.val] wr fun e w' => ∃ v' X' Y', e = .returned (.tuple #[v', .bool true]) ∧ PS w0 w' base T X' v' Y' ∧ X'.map MB.m = stepM (X.map MB.m) o ∧ X'.length ≤ X.length + 1 ∧ Fr T.foot wr w' := by
  obtain ⟨_, ⟨hwf, hb, _⟩, hmode⟩ := ho
  have hxn := MB.len_eq hb
  obtain ⟨k, ⟨⟨uid, fl, body⟩, A, n, c⟩, mode⟩ := o
  dsimp only at hxn hf hk0 hk1
  subst hxn
  simp only [SOp.val]
  have HB := Lib.hid hb
  have HWF := Lib.hid hwf
  have HMD := Lib.hid hmode
  have huid0 := hwf.1.1
  have huid1 := hwf.1.2
  have hfl := hwf.2
  dsimp only at huid0 huid1 hfl
  obtain ⟨vA, vc, rfl, _⟩ := h.own.form
  have hYl : Y.length ≤ 1000 := by have := h.len; omega
  have HP := Lib.hid h
  have HST := Lib.hid (show stepM (X.map MB.m) ⟨k, ⟨⟨uid, fl, body⟩, A, body.length, c⟩, mode⟩ = if k = 0 then putM (X.map MB.m) ⟨uid, fl, body⟩ else if k = 1 then flM (X.map MB.m) uid mode fl else if k = 2 then remM (X.map MB.m) uid else X.map MB.m from rfl)
  obtain ⟨w1, hw1⟩ : ∃ w1, w1 = (wr.alloc (.cells #[.int .i64 k, .int .u32 uid, .int .u8 fl, .slice A body.length c, .int .i64 mode] 49)).alloc (.cells #[.int .u32 uid, .int .u8 fl, .slice A body.length c] 34) := ⟨_, rfl⟩
  have hn1 : New wr w1 := by rw [hw1]; exact ((New.refl wr).alloc _).alloc _
  have bo1 : Blk w1 wr.heap.size 49 #[.int .i64 k, .int .u32 uid, .int .u8 fl, .slice A body.length c, .int .i64 mode] := by rw [hw1]; exact (Blk.new _ _ _).alloc _
  have bm1 : Blk w1 (wr.heap.size + 1) 34 #[.int .u32 uid, .int .u8 fl, .slice A body.length c] := by rw [hw1]; exact Blk.new1 _ _ _ _
  have hrf := rfind_any (h.own.rd.new hn1) (by omega) uid
  have HRF := Lib.hid hrf
  have HW1 := Lib.hid hw1
  have hfis := findI_is (Y := Y) (k := uid)
  have HWM := Lib.hid (want_m h.eq uid)
  clear hw1 hrf h hb hwf hmode
  rw [hf] at hfis HWM
  have hxw := findX_mem hf
  have HX0 := Lib.hid (HP.out.rd xw hxw.1)
  obtain ⟨i, hr⟩ : ∃ i : Nat, findI (Y.map MB.m) uid = i := ⟨(findI (Y.map MB.m) uid).toNat, by have : 0 ≤ findI (Y.map MB.m) uid := by simpa using hfis
                                                                                                omega⟩
  obtain ⟨xw', hxi, hxiu, hxf⟩ := findI_x hr
  rw [hf] at hxf
  injection hxf with hxf
  subst hxf
  have hil := (List.getElem?_eq_some_iff.1 hxi).1
  rw [hr] at hfis HRF
  have hfis : decide (0 ≤ (i : Int)) = true := hfis
  obtain ⟨g, rfl⟩ := HP.out.own.some_ (by omega)
  have hiI : (i : Int) < Y.length := by omega
  have hi0 : (0 : Int) ≤ i := by omega
  have HCR := Lib.hid (fun (w' : World) (hn : New wr w') (j : Nat) (u : Value) (hu : (mbE.enc xw)[j]? = some u) => (Fr.cell hn (HP.out.own.cell_at hxi hu) id : w'.cell? ⟨g, i * 3 + j, none⟩ = some u))
  obtain ⟨⟨xu, xf, xb⟩, xA, xn, xc⟩ := xw
  simp only [MB.bv] at HX0
  clear hr hf hxi hxiu hxw hil
  have hq0 : (k == 0) = false := by simp [hk0]
  rw [if_neg hk0] at HST
  have hq1 : (k == 1) = true := by simp [hk1]
  rw [if_pos hk1] at HST
  clear hk0 hk1
  go_enter Try.func19, Try.ntmps19
  go_wp2_with fail
  rw [← HW1.out]
  refine HRF.out.mono ?_
  rintro e w2 ⟨rfl, hn2⟩
  have hc0 := HCR.out w2 (hn1.trans hn2) 0 _ rfl
  have hc1 := HCR.out w2 (hn1.trans hn2) 1 _ rfl
  have hc2 := HCR.out w2 (hn1.trans hn2) 2 _ rfl
  have hc0 : w2.cell? ⟨g, i * 3, none⟩ = some (.int .u32 xu) := hc0
  have hc1 : w2.cell? ⟨g, i * 3 + 1, none⟩ = some (.int .u8 xf) := hc1
  have hc2 : w2.cell? ⟨g, i * 3 + 2, none⟩ = some (.slice xA xn xc) := hc2
  have hgl := World.block_lt_of_cell? w2 _ hc0
  simp only at hgl
  have bo2 := hn2.blk bo1
  have bm2 := hn2.blk bm1
  have hsl2 := bm2.lt
  have hsl2' := bo2.lt
  have d0 : w2.cell? ⟨wr.heap.size, 0, none⟩ = some (.int .i64 k) := bo2.cell 0
  have d4 : w2.cell? ⟨wr.heap.size, 4, none⟩ = some (.int .i64 mode) := bo2.cell 4
  have e0 : w2.cell? ⟨wr.heap.size + 1, 0, none⟩ = some (.int .u32 uid) := bm2.cell 0
  have e1 : w2.cell? ⟨wr.heap.size + 1, 1, none⟩ = some (.int .u8 fl) := bm2.cell 1
  have e2 : w2.cell? ⟨wr.heap.size + 1, 2, none⟩ = some (.slice A body.length c) := bm2.cell 2
  have hn3 : New w2 (w2.alloc (.cells #[.int .u32 xu, .int .u8 xf, .slice xA xn xc] 34)) := (New.refl _).alloc _
  have HP3 := Lib.hid (HP.out.more ((hn1.trans hn2).trans hn3))
  have HN3 := Lib.hid ((hn1.trans hn2).trans hn3)
  have bo3 := hn3.blk bo2
  have bm3 := hn3.blk bm2
  have bw3 : Blk (w2.alloc (.cells #[.int .u32 xu, .int .u8 xf, .slice xA xn xc] 34)) w2.heap.size 34 #[.int .u32 xu, .int .u8 xf, .slice xA xn xc] := Blk.new _ _ _
  clear hn3
  go_wp2_with fail
  refine (rflags_any HP3.out.own HP3.out.made.bs (by omega) HP.out.nd (fun y hy => by have := (HP.out.ok y hy).2; omega) uid mode fl hfl).mono ?_
  rintro e w4 ⟨u, rfl, ho4, hn4⟩
  obtain ⟨uA, uc, rfl, _⟩ := ho4.form
  have HP4 := Lib.hid (HP3.out.more hn4)
  have bm4 := hn4.blk bm3
  have bo4 := hn4.blk bo3
  have g0 : w4.cell? ⟨wr.heap.size + 1, 0, none⟩ = some (.int .u32 uid) := bm4.cell 0
  have g1 : w4.cell? ⟨wr.heap.size + 1, 1, none⟩ = some (.int .u8 fl) := bm4.cell 1
  have g4 : w4.cell? ⟨wr.heap.size, 4, none⟩ = some (.int .i64 mode) := bo4.cell 4
  have HO4 := Lib.hid ho4
  have HN4 := Lib.hid (HN3.out.trans hn4)
  clear ho4 hn4
  rw [HP.out.eq]
  go_wp2_with fail
  refine (tflags_any HP4.out.made.tbl (by omega) uid mode fl huid0 huid1 hfl HMD.out).mono ?_
  obtain ⟨pc, hpc⟩ : ∃ pc, flC (X.map MB.m) uid mode fl = pc := ⟨_, rfl⟩
  obtain ⟨px, hpx⟩ : ∃ px, flX (X.map MB.m) uid mode fl = px := ⟨_, rfl⟩
  have hpxb : 0 ≤ px ∧ px ≤ 255 := by
    rw [← hpx]
    unfold flX
    split
    · omega
    · rename_i m hm
      cases hc : chg m.fl mode fl with
      | none => simp
      | some z => have := chg_ok hc hfl.1; simp; omega
  have hpw : IntKind.i64.wrap px = px := IntWalk.i64_in _ (by omega)
  rw [hpc, hpx]
  rintro e w5 ⟨rfl, X', hX', hXl', hT5, hf5⟩
  have HM5 := Lib.hid (HP4.out.made.turn hT5 hf5)
  have HO5 := Lib.hid (HP4.out.row HO4.out hf5)
  have HF5 := Lib.hid (Fr.trans (New.to HN4.out) hf5)
  have HX5 := Lib.hid hX'
  clear hT5 hf5 hX' hpc hpx
  go_wp2
  go_ret2
  refine ⟨_, X', flsX Y uid mode fl, by first | (simp; done) | (simp; rfl), ⟨HM5.out, HO5.out, fun y hy => ?_, ?_⟩, by rw [HST.out]; exact HX5.out, by omega, HF5.out⟩
  · unfold flsX at hy
    split at hy
    · unfold setX at hy
      obtain ⟨z, hz, rfl⟩ := List.mem_map.1 hy
      have h9 := HP.out.rd z hz
      split <;> exact h9
    · exact HP.out.rd y hy
  · rw [flsX_map, HP.out.eq]
    exact HX5.out.symm

end Go.Proofs.Ytjnaihhkbbeaoaa
end

