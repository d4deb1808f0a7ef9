/- Part 16 of the proof of StripeAgrees: StPs2, StPs3, StPlay, StPlays. -/
import Derived.Test.YtjnaihhkbbeaoaaGStripeAgreesAO

section
/- A call played on a table and on the reference: one way. -/
namespace Go.Proofs.Ytjnaihhkbbeaoaa
open Go.RowKit

set_option maxRecDepth 100000 in
set_option maxHeartbeats 1600000 in
theorem play_s2 {w0 wr : World} {base : Nat} {T : Tb} {X : List MB} {v : Value} {Y : List MB} (h : PS w0 wr base T X v Y) (hX : X.length ≤ 1000) (o : SOp) (ho : o.inn w0) (xw : MB) (hf : findX Y o.x.m.uid = some xw) (hk0 : o.k ≠ 0) (hk1 : o.k ≠ 1) (hk2 : o.k = 2) :
    Calls Try.prog 19 #[.pointer (some ⟨T.tb, 0, none⟩), v, o.val] wr fun e w' => ∃ v' X' Y', e = .returned (.tuple #[v', .bool true]) ∧ PS w0 w' base T X' v' Y' ∧ X'.map MB.m = stepM (X.map MB.m) o ∧ X'.length ≤ X.length + 1 ∧ Fr T.foot wr w' := by
  obtain ⟨_, ⟨hwf, hb, _⟩, hmode⟩ := ho
  have hxn := MB.len_eq hb
  obtain ⟨k, ⟨⟨uid, fl, body⟩, A, n, c⟩, mode⟩ := o
  dsimp only at hxn hf hk0 hk1 hk2
  subst hxn
  simp only [SOp.val]
  have HB := Lib.hid hb
  have HWF := Lib.hid hwf
  have HMD := Lib.hid hmode
  have huid0 := hwf.1.1
  have huid1 := hwf.1.2
  have hfl := hwf.2
  dsimp only at huid0 huid1 hfl
  obtain ⟨vA, vc, rfl, _⟩ := h.own.form
  have hYl : Y.length ≤ 1000 := by have := h.len; omega
  have HP := Lib.hid h
  have HST := Lib.hid (show stepM (X.map MB.m) ⟨k, ⟨⟨uid, fl, body⟩, A, body.length, c⟩, mode⟩ = if k = 0 then putM (X.map MB.m) ⟨uid, fl, body⟩ else if k = 1 then flM (X.map MB.m) uid mode fl else if k = 2 then remM (X.map MB.m) uid else X.map MB.m from rfl)
  obtain ⟨w1, hw1⟩ : ∃ w1, w1 = (wr.alloc (.cells #[.int .i64 k, .int .u32 uid, .int .u8 fl, .slice A body.length c, .int .i64 mode] 49)).alloc (.cells #[.int .u32 uid, .int .u8 fl, .slice A body.length c] 34) := ⟨_, rfl⟩
  have hn1 : New wr w1 := by rw [hw1]; exact ((New.refl wr).alloc _).alloc _
  have bo1 : Blk w1 wr.heap.size 49 #[.int .i64 k, .int .u32 uid, .int .u8 fl, .slice A body.length c, .int .i64 mode] := by rw [hw1]; exact (Blk.new _ _ _).alloc _
  have bm1 : Blk w1 (wr.heap.size + 1) 34 #[.int .u32 uid, .int .u8 fl, .slice A body.length c] := by rw [hw1]; exact Blk.new1 _ _ _ _
  have hrf := rfind_any (h.own.rd.new hn1) (by omega) uid
  have HRF := Lib.hid hrf
  have HW1 := Lib.hid hw1
  have hfis := findI_is (Y := Y) (k := uid)
  have HWM := Lib.hid (want_m h.eq uid)
  clear hw1 hrf h hb hwf hmode
  rw [hf] at hfis HWM
  have hxw := findX_mem hf
  have HX0 := Lib.hid (HP.out.rd xw hxw.1)
  obtain ⟨i, hr⟩ : ∃ i : Nat, findI (Y.map MB.m) uid = i := ⟨(findI (Y.map MB.m) uid).toNat, by have : 0 ≤ findI (Y.map MB.m) uid := by simpa using hfis
                                                                                                omega⟩
  obtain ⟨xw', hxi, hxiu, hxf⟩ := findI_x hr
  rw [hf] at hxf
  injection hxf with hxf
  subst hxf
  have hil := (List.getElem?_eq_some_iff.1 hxi).1
  rw [hr] at hfis HRF
  have hfis : decide (0 ≤ (i : Int)) = true := hfis
  obtain ⟨g, rfl⟩ := HP.out.own.some_ (by omega)
  have hiI : (i : Int) < Y.length := by omega
  have hi0 : (0 : Int) ≤ i := by omega
  have HCR := Lib.hid (fun (w' : World) (hn : New wr w') (j : Nat) (u : Value) (hu : (mbE.enc xw)[j]? = some u) => (Fr.cell hn (HP.out.own.cell_at hxi hu) id : w'.cell? ⟨g, i * 3 + j, none⟩ = some u))
  obtain ⟨⟨xu, xf, xb⟩, xA, xn, xc⟩ := xw
  simp only [MB.bv] at HX0
  clear hr hf hxi hxiu hxw hil
  have hq0 : (k == 0) = false := by simp [hk0]
  rw [if_neg hk0] at HST
  have hq1 : (k == 1) = false := by simp [hk1]
  rw [if_neg hk1] at HST
  have hq2 : (k == 2) = true := by simp [hk2]
  rw [if_pos hk2] at HST
  clear hk0 hk1 hk2
  go_enter Try.func19, Try.ntmps19
  go_wp2_with fail
  rw [← HW1.out]
  refine HRF.out.mono ?_
  rintro e w2 ⟨rfl, hn2⟩
  have hc0 := HCR.out w2 (hn1.trans hn2) 0 _ rfl
  have hc1 := HCR.out w2 (hn1.trans hn2) 1 _ rfl
  have hc2 := HCR.out w2 (hn1.trans hn2) 2 _ rfl
  have hc0 : w2.cell? ⟨g, i * 3, none⟩ = some (.int .u32 xu) := hc0
  have hc1 : w2.cell? ⟨g, i * 3 + 1, none⟩ = some (.int .u8 xf) := hc1
  have hc2 : w2.cell? ⟨g, i * 3 + 2, none⟩ = some (.slice xA xn xc) := hc2
  have hgl := World.block_lt_of_cell? w2 _ hc0
  simp only at hgl
  have bo2 := hn2.blk bo1
  have bm2 := hn2.blk bm1
  have hsl2 := bm2.lt
  have hsl2' := bo2.lt
  have d0 : w2.cell? ⟨wr.heap.size, 0, none⟩ = some (.int .i64 k) := bo2.cell 0
  have d4 : w2.cell? ⟨wr.heap.size, 4, none⟩ = some (.int .i64 mode) := bo2.cell 4
  have e0 : w2.cell? ⟨wr.heap.size + 1, 0, none⟩ = some (.int .u32 uid) := bm2.cell 0
  have e1 : w2.cell? ⟨wr.heap.size + 1, 1, none⟩ = some (.int .u8 fl) := bm2.cell 1
  have e2 : w2.cell? ⟨wr.heap.size + 1, 2, none⟩ = some (.slice A body.length c) := bm2.cell 2
  have hn3 : New w2 (w2.alloc (.cells #[.int .u32 xu, .int .u8 xf, .slice xA xn xc] 34)) := (New.refl _).alloc _
  have HP3 := Lib.hid (HP.out.more ((hn1.trans hn2).trans hn3))
  have HN3 := Lib.hid ((hn1.trans hn2).trans hn3)
  have bo3 := hn3.blk bo2
  have bm3 := hn3.blk bm2
  have bw3 : Blk (w2.alloc (.cells #[.int .u32 xu, .int .u8 xf, .slice xA xn xc] 34)) w2.heap.size 34 #[.int .u32 xu, .int .u8 xf, .slice xA xn xc] := Blk.new _ _ _
  clear hn3
  have hg := tremove_any HP3.out.made.tbl HP3.out.made.hi uid huid0 huid1
  have hwm := HWM.out
  obtain ⟨z, hz⟩ : ∃ z, (findX X uid).getD mb0 = z := ⟨_, rfl⟩
  rw [hwm.2, hz] at hg
  rw [hz] at hwm
  have HG := Lib.hid hg
  have HZM := Lib.hid hwm.1
  clear hg hwm hz
  obtain ⟨⟨zu, zf, zb⟩, zA, zn, zc⟩ := z
  simp only [MB.val, MB.bv] at HG
  go_wp2_with fail
  refine HG.out.mono ?_
  rintro e w4 ⟨rfl, hzr, hT4, hf4⟩
  have HM4 := Lib.hid (HP3.out.made.turn hT4 hf4)
  have HO4 := Lib.hid (HP3.out.row HP3.out.own hf4)
  have HF4 := Lib.hid (Fr.trans (New.to HN3.out) hf4)
  have hhi := HP.out.made.hi
  have hbs := HP.out.made.bs
  have bm4 := hf4.blk bm3 (fun hs => by have := hs.2; omega)
  have bw4 := hf4.blk bw3 (fun hs => by have := hs.2; omega)
  have HZR := Lib.hid hzr
  have g0 : w4.cell? ⟨wr.heap.size + 1, 0, none⟩ = some (.int .u32 uid) := bm4.cell 0
  have hl1 := bm4.lt
  have hl2 := bw4.lt
  clear hT4 hf4 hzr bm3 bw3 HG
  go_wp2_with fail
  refine (rrem_any ((HO4.out.rd).alloc (.cells #[.int .u32 zu, .int .u8 zf, .slice zA zn zc] 34)) (by omega) uid).mono ?_
  rintro e w5 ⟨u, rfl, ho5, hn5⟩
  obtain ⟨uA, uc, rfl, _⟩ := ho5.form
  have bw5 := hn5.blk (bw4.alloc _)
  have bz5 := hn5.blk (Blk.new w4 34 #[.int .u32 zu, .int .u8 zf, .slice zA zn zc])
  have y0 : w5.cell? ⟨w4.heap.size, 0, none⟩ = some (.int .u32 zu) := bz5.cell 0
  have y1 : w5.cell? ⟨w4.heap.size, 1, none⟩ = some (.int .u8 zf) := bz5.cell 1
  have y2 : w5.cell? ⟨w4.heap.size, 2, none⟩ = some (.slice zA zn zc) := bz5.cell 2
  have q0 : w5.cell? ⟨w2.heap.size, 0, none⟩ = some (.int .u32 xu) := bw5.cell 0
  have q1 : w5.cell? ⟨w2.heap.size, 1, none⟩ = some (.int .u8 xf) := bw5.cell 1
  have q2 : w5.cell? ⟨w2.heap.size, 2, none⟩ = some (.slice xA xn xc) := bw5.cell 2
  have HN5 : Hid (New w4 w5) := Lib.hid (((New.refl w4).alloc _).trans hn5)
  have hs45 := HN5.out.size
  have HO5 := Lib.hid ho5
  have hb45 : base ≤ (w4.alloc (.cells #[.int .u32 zu, .int .u8 zf, .slice zA zn zc] 34)).heap.size := by have := HM4.out.bs; simp; omega
  clear ho5 hn5
  go_wp2_with fail
  refine (rsame_any ⟨⟨zu, zf, zb⟩, zA, zn, zc⟩ (⟨⟨xu, xf, xb⟩, xA, xn, xc⟩ : MB) _ (HZR.out.new HN5.out) (HX0.out.new (HM4.out.new.trans HN5.out)) (by first | exact HZM.out | simpa using HZM.out)).mono ?_
  rintro e w6 ⟨rfl, hn6⟩
  go_wp2
  go_ret2
  refine ⟨_, remX X uid, remX Y uid, by first | (simp; done) | (simp; rfl), ⟨HM4.out.more (HN5.out.trans hn6), (HO5.out.mono hb45).new hn6, fun y hy => HP.out.rd y (List.mem_filter.1 hy).1, ?_⟩, by rw [HST.out]; exact remX_map _ _, Nat.le_trans (List.length_filter_le _ _) (by omega), Fr.trans HF4.out (New.to (HN5.out.trans hn6))⟩
  rw [remX_map, remX_map, HP.out.eq]

end Go.Proofs.Ytjnaihhkbbeaoaa
end

section
/- A call played on a table and on the reference: one way. -/
namespace Go.Proofs.Ytjnaihhkbbeaoaa
open Go.RowKit

set_option maxRecDepth 100000 in
set_option maxHeartbeats 1600000 in
theorem play_s3 {w0 wr : World} {base : Nat} {T : Tb} {X : List MB} {v : Value} {Y : List MB} (h : PS w0 wr base T X v Y) (hX : X.length ≤ 1000) (o : SOp) (ho : o.inn w0) (xw : MB) (hf : findX Y o.x.m.uid = some xw) (hk0 : o.k ≠ 0) (hk1 : o.k ≠ 1) (hk2 : o.k ≠ 2) :
    Calls Try.prog 19 #[.pointer (some ⟨T.tb, 0, none⟩), v, o.val] wr fun e w' => ∃ v' X' Y', e = .returned (.tuple #[v', .bool true]) ∧ PS w0 w' base T X' v' Y' ∧ X'.map MB.m = stepM (X.map MB.m) o ∧ X'.length ≤ X.length + 1 ∧ Fr T.foot wr w' := by
  obtain ⟨_, ⟨hwf, hb, _⟩, hmode⟩ := ho
  have hxn := MB.len_eq hb
  obtain ⟨k, ⟨⟨uid, fl, body⟩, A, n, c⟩, mode⟩ := o
  dsimp only at hxn hf hk0 hk1 hk2
  subst hxn
  simp only [SOp.val]
  have HB := Lib.hid hb
  have HWF := Lib.hid hwf
  have HMD := Lib.hid hmode
  have huid0 := hwf.1.1
  have huid1 := hwf.1.2
  have hfl := hwf.2
  dsimp only at huid0 huid1 hfl
  obtain ⟨vA, vc, rfl, _⟩ := h.own.form
  have hYl : Y.length ≤ 1000 := by have := h.len; omega
  have HP := Lib.hid h
  have HST := Lib.hid (show stepM (X.map MB.m) ⟨k, ⟨⟨uid, fl, body⟩, A, body.length, c⟩, mode⟩ = if k = 0 then putM (X.map MB.m) ⟨uid, fl, body⟩ else if k = 1 then flM (X.map MB.m) uid mode fl else if k = 2 then remM (X.map MB.m) uid else X.map MB.m from rfl)
  obtain ⟨w1, hw1⟩ : ∃ w1, w1 = (wr.alloc (.cells #[.int .i64 k, .int .u32 uid, .int .u8 fl, .slice A body.length c, .int .i64 mode] 49)).alloc (.cells #[.int .u32 uid, .int .u8 fl, .slice A body.length c] 34) := ⟨_, rfl⟩
  have hn1 : New wr w1 := by rw [hw1]; exact ((New.refl wr).alloc _).alloc _
  have bo1 : Blk w1 wr.heap.size 49 #[.int .i64 k, .int .u32 uid, .int .u8 fl, .slice A body.length c, .int .i64 mode] := by rw [hw1]; exact (Blk.new _ _ _).alloc _
  have bm1 : Blk w1 (wr.heap.size + 1) 34 #[.int .u32 uid, .int .u8 fl, .slice A body.length c] := by rw [hw1]; exact Blk.new1 _ _ _ _
  have hrf := rfind_any (h.own.rd.new hn1) (by omega) uid
  have HRF := Lib.hid hrf
  have HW1 := Lib.hid hw1
  have hfis := findI_is (Y := Y) (k := uid)
  have HWM := Lib.hid (want_m h.eq uid)
  clear hw1 hrf h hb hwf hmode
  rw [hf] at hfis HWM
  have hxw := findX_mem hf
  have HX0 := Lib.hid (HP.out.rd xw hxw.1)
  obtain ⟨i, hr⟩ : ∃ i : Nat, findI (Y.map MB.m) uid = i := ⟨(findI (Y.map MB.m) uid).toNat, by have : 0 ≤ findI (Y.map MB.m) uid := by simpa using hfis
                                                                                                omega⟩
  obtain ⟨xw', hxi, hxiu, hxf⟩ := findI_x hr
  rw [hf] at hxf
  injection hxf with hxf
  subst hxf
  have hil := (List.getElem?_eq_some_iff.1 hxi).1
  rw [hr] at hfis HRF
  have hfis : decide (0 ≤ (i : Int)) = true := hfis
  obtain ⟨g, rfl⟩ := HP.out.own.some_ (by omega)
  have hiI : (i : Int) < Y.length := by omega
  have hi0 : (0 : Int) ≤ i := by omega
  have HCR := Lib.hid (fun (w' : World) (hn : New wr w') (j : Nat) (u : Value) (hu : (mbE.enc xw)[j]? = some u) => (Fr.cell hn (HP.out.own.cell_at hxi hu) id : w'.cell? ⟨g, i * 3 + j, none⟩ = some u))
  obtain ⟨⟨xu, xf, xb⟩, xA, xn, xc⟩ := xw
  simp only [MB.bv] at HX0
  clear hr hf hxi hxiu hxw hil
  have hq0 : (k == 0) = false := by simp [hk0]
  rw [if_neg hk0] at HST
  have hq1 : (k == 1) = false := by simp [hk1]
  rw [if_neg hk1] at HST
  have hq2 : (k == 2) = false := by simp [hk2]
  rw [if_neg hk2] at HST
  clear hk0 hk1 hk2
  go_enter Try.func19, Try.ntmps19
  go_wp2_with fail
  rw [← HW1.out]
  refine HRF.out.mono ?_
  rintro e w2 ⟨rfl, hn2⟩
  have hc0 := HCR.out w2 (hn1.trans hn2) 0 _ rfl
  have hc1 := HCR.out w2 (hn1.trans hn2) 1 _ rfl
  have hc2 := HCR.out w2 (hn1.trans hn2) 2 _ rfl
  have hc0 : w2.cell? ⟨g, i * 3, none⟩ = some (.int .u32 xu) := hc0
  have hc1 : w2.cell? ⟨g, i * 3 + 1, none⟩ = some (.int .u8 xf) := hc1
  have hc2 : w2.cell? ⟨g, i * 3 + 2, none⟩ = some (.slice xA xn xc) := hc2
  have hgl := World.block_lt_of_cell? w2 _ hc0
  simp only at hgl
  have bo2 := hn2.blk bo1
  have bm2 := hn2.blk bm1
  have hsl2 := bm2.lt
  have hsl2' := bo2.lt
  have d0 : w2.cell? ⟨wr.heap.size, 0, none⟩ = some (.int .i64 k) := bo2.cell 0
  have d4 : w2.cell? ⟨wr.heap.size, 4, none⟩ = some (.int .i64 mode) := bo2.cell 4
  have e0 : w2.cell? ⟨wr.heap.size + 1, 0, none⟩ = some (.int .u32 uid) := bm2.cell 0
  have e1 : w2.cell? ⟨wr.heap.size + 1, 1, none⟩ = some (.int .u8 fl) := bm2.cell 1
  have e2 : w2.cell? ⟨wr.heap.size + 1, 2, none⟩ = some (.slice A body.length c) := bm2.cell 2
  have hn3 : New w2 (w2.alloc (.cells #[.int .u32 xu, .int .u8 xf, .slice xA xn xc] 34)) := (New.refl _).alloc _
  have HP3 := Lib.hid (HP.out.more ((hn1.trans hn2).trans hn3))
  have HN3 := Lib.hid ((hn1.trans hn2).trans hn3)
  have bo3 := hn3.blk bo2
  have bm3 := hn3.blk bm2
  have bw3 : Blk (w2.alloc (.cells #[.int .u32 xu, .int .u8 xf, .slice xA xn xc] 34)) w2.heap.size 34 #[.int .u32 xu, .int .u8 xf, .slice xA xn xc] := Blk.new _ _ _
  clear hn3
  have hg := tget_any HP3.out.made.tbl uid huid0 huid1
  have hwm := HWM.out
  obtain ⟨z, hz⟩ : ∃ z, (findX X uid).getD mb0 = z := ⟨_, rfl⟩
  rw [hwm.2, hz] at hg
  rw [hz] at hwm
  have HG := Lib.hid hg
  have HZM := Lib.hid hwm.1
  clear hg hwm hz
  go_wp2_with fail
  refine HG.out.mono ?_
  rintro e w4 ⟨⟨⟨zu, zf, zb⟩, zA, zn, zc⟩, rfl, hyz, hzr, hT4, hf4⟩
  simp only [MB.val, MB.bv] at hyz hzr ⊢
  have HM4 := Lib.hid (HP3.out.made.turn hT4 hf4)
  have HO4 := Lib.hid (HP3.out.row HP3.out.own hf4)
  have HF4 := Lib.hid (Fr.trans (New.to HN3.out) hf4)
  have hhi := HP.out.made.hi
  have hbs := HP.out.made.bs
  have bw4 := hf4.blk bw3 (fun hs => by have := hs.2; omega)
  have HZR := Lib.hid hzr.rd
  have HZ2 := Lib.hid (hyz.trans HZM.out)
  have hl2 := bw4.lt
  have bz5 := Blk.new w4 34 #[.int .u32 zu, .int .u8 zf, .slice zA zn zc]
  have bw5 := bw4.alloc (.cells #[.int .u32 zu, .int .u8 zf, .slice zA zn zc] 34)
  have HN5 : Hid (New w4 (w4.alloc (.cells #[.int .u32 zu, .int .u8 zf, .slice zA zn zc] 34))) := Lib.hid ((New.refl w4).alloc _)
  have q0 : w4.cell? ⟨w2.heap.size, 0, none⟩ = some (.int .u32 xu) := bw4.cell 0
  have q1 : w4.cell? ⟨w2.heap.size, 1, none⟩ = some (.int .u8 xf) := bw4.cell 1
  have q2 : w4.cell? ⟨w2.heap.size, 2, none⟩ = some (.slice xA xn xc) := bw4.cell 2
  clear hT4 hf4 hzr bm3 bw3 HG hyz
  go_wp2_with fail
  refine (rsame_any ⟨⟨zu, zf, zb⟩, zA, zn, zc⟩ (⟨⟨xu, xf, xb⟩, xA, xn, xc⟩ : MB) _ (HZR.out.new HN5.out) (HX0.out.new (HM4.out.new.trans HN5.out)) (by first | exact HZ2.out | simpa using HZ2.out)).mono ?_
  rintro e w6 ⟨rfl, hn6⟩
  go_wp2
  go_ret2
  exact ⟨_, X, Y, by first | (simp; done) | (simp; rfl), ⟨HM4.out.more (HN5.out.trans hn6), (HO4.out.new HN5.out).new hn6, HP.out.rd, HP.out.eq⟩, by rw [HST.out], by omega, Fr.trans HF4.out (New.to (HN5.out.trans hn6))⟩

end Go.Proofs.Ytjnaihhkbbeaoaa
end

section
/- A call played on a table and on the reference's list. -/
namespace Go.Proofs.Ytjnaihhkbbeaoaa
open Go.RowKit

theorem play_any {w0 wr : World} {base : Nat} {T : Tb} {X : List MB} {v : Value} {Y : List MB} (h : PS w0 wr base T X v Y) (hX : X.length ≤ 1000) (o : SOp) (ho : o.inn w0) :
    Calls Try.prog 19 #[.pointer (some ⟨T.tb, 0, none⟩), v, o.val] wr fun e w' => ∃ v' X' Y', e = .returned (.tuple #[v', .bool true]) ∧ PS w0 w' base T X' v' Y' ∧ X'.map MB.m = stepM (X.map MB.m) o ∧ X'.length ≤ X.length + 1 ∧ Fr T.foot wr w' := by
  cases hf : findX Y o.x.m.uid with
  | none =>
    by_cases h0 : o.k = 0
    · exact play_n0 h hX o ho hf h0
    by_cases h1 : o.k = 1
    · exact play_n1 h hX o ho hf h0 h1
    by_cases h2 : o.k = 2
    · exact play_n2 h hX o ho hf h0 h1 h2
    exact play_n3 h hX o ho hf h0 h1 h2
  | some xw =>
    by_cases h0 : o.k = 0
    · exact play_s0 h hX o ho xw hf h0
    by_cases h1 : o.k = 1
    · exact play_s1 h hX o ho xw hf h0 h1
    by_cases h2 : o.k = 2
    · exact play_s2 h hX o ho xw hf h0 h1 h2
    exact play_s3 h hX o ho xw hf h0 h1 h2

end Go.Proofs.Ytjnaihhkbbeaoaa
end

section
/- StripePlays: the walk. -/
namespace Go.Proofs.Ytjnaihhkbbeaoaa
open Go.RowKit

set_option maxRecDepth 100000 in
set_option maxHeartbeats 800000 in
theorem plays_few (a : Int) (x : Value × List SOp) (f : Int) (w : World) (hx : Rd sopE w x.1 x.2 ∧ (∀ y ∈ x.2, y.inn w) ∧ x.2.length ≤ maxLen) (hq : fewP x.2 = false) :
    Calls Try.prog 7 #[.int .u8 a, x.1, .int .u8 f] w fun e w' => e = .returned (.bool true) ∧ New w w' := by
  obtain ⟨v, l⟩ := x
  obtain ⟨hrd, hin, hlm⟩ := hx
  dsimp only at hrd hin hlm ⊢
  have hf := few_any hrd hin hlm
  dsimp only at hq
  rw [hq] at hf
  have HF := Lib.hid hf
  obtain ⟨A, c, rfl, _⟩ := hrd
  clear hf hin hq
  go_enter Try.func7, Try.ntmps7
  go_wp2_with fail
  refine HF.out.mono ?_
  rintro e w1 ⟨rfl, hn1⟩
  go_wp2_with fail
  refine (salive_any _).mono ?_
  rintro e w2 ⟨rfl, hn2⟩
  go_wp2
  go_ret
  exact ⟨rfl, hn1.trans hn2⟩

set_option maxRecDepth 100000 in
set_option maxHeartbeats 800000 in
theorem plays_none (a : Int) (x : Value × List SOp) (f : Int) (w : World) (h0 : 0 ≤ a) (h1 : a ≤ 255) (hx : Rd sopE w x.1 x.2 ∧ (∀ y ∈ x.2, y.inn w) ∧ x.2.length ≤ maxLen) (hq : fewP x.2 = true) (ha : a < 1 ∨ 16 < a) :
    Calls Try.prog 7 #[.int .u8 a, x.1, .int .u8 f] w fun e w' => e = .returned (.bool true) ∧ New w w' := by
  obtain ⟨v, l⟩ := x
  obtain ⟨hrd, hin, hlm⟩ := hx
  dsimp only at hrd hin hlm ⊢
  have hf := few_any hrd hin hlm
  dsimp only at hq
  rw [hq] at hf
  have HF := Lib.hid hf
  obtain ⟨A, c, rfl, _⟩ := hrd
  have hw : IntKind.i64.wrap a = a := IntWalk.i64_in _ (by omega)
  have HA := Lib.hid ha
  clear hf hin hq ha
  by_cases hlt : a < 1
  · have hd : decide (a < 1) = true := decide_eq_true hlt
    go_enter Try.func7, Try.ntmps7
    go_wp2_with fail
    refine HF.out.mono ?_
    rintro e w1 ⟨rfl, hn1⟩
    go_wp2_with fail
    refine (tnew_none a HA.out _).mono ?_
    rintro e w2 ⟨rfl, hn2⟩
    go_wp2_with fail
    refine (salive_any _).mono ?_
    rintro e w3 ⟨rfl, hn3⟩
    go_wp2
    go_ret
    exact ⟨rfl, (hn1.trans hn2).trans hn3⟩
  · have hd : decide (a < 1) = false := decide_eq_false hlt
    have hlt2 : 16 < a := by have := HA.out; omega
    have hd2 : decide (16 < a) = true := decide_eq_true hlt2
    go_enter Try.func7, Try.ntmps7
    go_wp2_with fail
    refine HF.out.mono ?_
    rintro e w1 ⟨rfl, hn1⟩
    go_wp2_with fail
    refine (tnew_none a HA.out _).mono ?_
    rintro e w2 ⟨rfl, hn2⟩
    go_wp2_with fail
    refine (salive_any _).mono ?_
    rintro e w3 ⟨rfl, hn3⟩
    go_wp2
    go_ret
    exact ⟨rfl, (hn1.trans hn2).trans hn3⟩

set_option maxRecDepth 100000 in
set_option maxHeartbeats 3200000 in
theorem plays_main (n : Nat) (x : Value × List SOp) (f : Int) (w : World) (h0 : 0 < n) (h1 : n ≤ 16) (hx : Rd sopE w x.1 x.2 ∧ (∀ y ∈ x.2, y.inn w) ∧ x.2.length ≤ maxLen) (hq : fewP x.2 = true) (hf0 : 0 ≤ f ∧ f ≤ 255) :
    Calls Try.prog 7 #[.int .u8 n, x.1, .int .u8 f] w fun e w' => e = .returned (.bool true) ∧ New w w' := by
  obtain ⟨v, l⟩ := x
  obtain ⟨hrd, hin, hlm⟩ := hx
  dsimp only at hrd hin hlm ⊢
  have hf := few_any hrd hin hlm
  dsimp only at hq
  have hl60 : l.length ≤ 60 := by
    unfold fewP at hq
    rw [Bool.and_eq_true] at hq
    simpa using hq.2
  rw [hq] at hf
  have HF := Lib.hid hf
  obtain ⟨A, c, rfl, hlc, hcells⟩ := hrd
  have HC := Lib.hid hcells
  have HIN := Lib.hid hin
  have hw : IntKind.i64.wrap (n : Int) = n := IntWalk.i64_in _ (by omega)
  have hd : decide ((n : Int) < 1) = false := decide_eq_false (by omega)
  have hd2 : decide (16 < (n : Int)) = false := decide_eq_false (by omega)
  have hd3 : decide (16 < n) = false := decide_eq_false (by omega)
  have hd4 : decide (n < 1) = false := decide_eq_false (by omega)
  clear hf hin hq hcells hlm
  go_enter Try.func7, Try.ntmps7
  go_wp2_with fail
  refine HF.out.mono ?_
  rintro e w1 ⟨rfl, hn1⟩
  go_wp2_with fail
  refine (tnew_any n h0 h1 _).mono ?_
  rintro e w2 ⟨T, rfl, hTn, hlo, hhi, hT, hn2⟩
  have HP0 : Hid (PS w w2 w2.heap.size T [] (.slice none 0 0) []) := Lib.hid (⟨⟨hT, by rw [hlo]; exact hn1.size, Nat.le_of_eq hhi, Nat.le_refl _, hn1.trans hn2⟩, Own.nil _ _ _ _, by simp, rfl⟩)
  have HTN := Lib.hid hTn
  clear hTn hlo hhi hT hn2 HF
  have hs := tstripes_any HP0.out.made.tbl
  rw [HTN.out] at hs
  have HS := Lib.hid hs
  clear hs
  go_wp2_with fail
  refine HS.out.mono ?_
  rintro e wb ⟨rfl, rfl⟩
  go_wp2
  go_loopw [8, 9, 41] (fun v8 v9 vi wr => ∃ (j : Nat) (v : Value) (X Y : List MB), v8 = v ∧ v9 = .bool true ∧ vi = .int .i64 j ∧ j ≤ l.length ∧ X.length ≤ j ∧ Hid (PS w wr wb.heap.size T X v Y)) (fun _ _ vi _ => l.length - (intOf vi).toNat)
  case atStart => exact ⟨0, _, [], [], rfl, rfl, rfl, Nat.zero_le _, Nat.le_refl _, HP0.out⟩
  case round =>
    obtain ⟨j, v, X, Y, rfl, rfl, rfl, hj, hXj, HP⟩ := hrel
    clear HP0 HS
    obtain ⟨vA, vc, rfl, _⟩ := HP.out.own.form
    by_cases hlt : j < l.length
    · have hd : decide ((j : Int) < l.length) = true := decide_eq_true (by omega)
      obtain ⟨o, ho⟩ : ∃ o, l[j]? = some o := ⟨_, List.getElem?_eq_getElem hlt⟩
      obtain ⟨b, off, rfl, hcell⟩ := HC.out (by rintro rfl; simp at hlt)
      have hmem : o ∈ l := List.mem_iff_getElem?.2 ⟨j, ho⟩
      have hoin := HIN.out o hmem
      have hnew := HP.out.made.new
      have hc0 := Fr.cell hnew (hcell j _ ho 0 _ rfl) id
      have hc1 := Fr.cell hnew (hcell j _ ho 1 _ rfl) id
      have hc2 := Fr.cell hnew (hcell j _ ho 2 _ rfl) id
      have hc3 := Fr.cell hnew (hcell j _ ho 3 _ rfl) id
      have hc4 := Fr.cell hnew (hcell j _ ho 4 _ rfl) id
      have HPL : Hid (∀ wz, New wr wz → Calls Try.prog 19 #[.pointer (some ⟨T.tb, 0, none⟩), .slice vA Y.length vc, o.val] wz fun e w' => ∃ v' X' Y', e = .returned (.tuple #[v', .bool true]) ∧ PS w w' wb.heap.size T X' v' Y' ∧ X'.length ≤ X.length + 1) :=
        Lib.hid (fun wz hz => (play_any (HP.out.more hz) (by omega) o hoin).mono fun e w' ⟨v', X', Y', h1, h2, _, h3, _⟩ => ⟨v', X', Y', h1, h2, h3⟩)
      obtain ⟨k, ⟨⟨uid, fl, body⟩, xA, xn, xc⟩, mode⟩ := o
      have c0 : wr.cell? ⟨b, off + j * 5, none⟩ = some (.int .i64 k) := hc0
      have c1 : wr.cell? ⟨b, off + j * 5 + 1, none⟩ = some (.int .u32 uid) := hc1
      have c2 : wr.cell? ⟨b, off + j * 5 + 2, none⟩ = some (.int .u8 fl) := hc2
      have c3 : wr.cell? ⟨b, off + j * 5 + 3, none⟩ = some (.slice xA xn xc) := hc3
      have c4 : wr.cell? ⟨b, off + j * 5 + 4, none⟩ = some (.int .i64 mode) := hc4
      have hkI : (j : Int) < l.length := by omega
      have hw : IntKind.i64.wrap ((j : Int) + 1) = (j : Int) + 1 := IntWalk.i64_in _ (by omega)
      have hn3 : New wr (wr.alloc (.cells #[.int .i64 k, .int .u32 uid, .int .u8 fl, .slice xA xn xc, .int .i64 mode] 49)) := (New.refl _).alloc _
      have HN3 := Lib.hid hn3
      simp only [SOp.val] at HPL
      clear hcell hc0 hc1 hc2 hc3 hc4 ho hmem hoin hnew hn3
      go_wp2_with fail
      refine (HPL.out _ HN3.out).mono ?_
      rintro e w4 ⟨v', X', Y', rfl, hP4, hXl⟩
      have HP4 := Lib.hid hP4
      obtain ⟨uA, uc, rfl, _⟩ := hP4.own.form
      have hYX : Y'.length ≤ 1000 := by have := hP4.len; omega
      have hsz := tsizes_any hP4.made.tbl
      rw [HTN.out, ← hP4.eq] at hsz
      have HSZ := Lib.hid hsz
      obtain ⟨sl, hsl⟩ : ∃ sl, sizesM n (Y'.map MB.m) = sl := ⟨_, rfl⟩
      have hsll : sl.length ≤ 100 := by rw [← hsl, sizesM_len]; omega
      rw [hsl] at HSZ
      have HSL := Lib.hid hsl
      clear hP4 hsz hsl HPL
      go_wp2_with fail
      refine HSZ.out.mono ?_
      rintro e w5 ⟨o5, rfl, ho5, hT5, hf5⟩
      obtain ⟨oA, oc, rfl, _⟩ := ho5.form
      have HP5 : Hid (PS w w5 wb.heap.size T X' (.slice uA Y'.length uc) Y') := Lib.hid ⟨HP4.out.made.turn hT5 hf5, HP4.out.row HP4.out.own hf5, HP4.out.rd, HP4.out.eq⟩
      have HO5 := Lib.hid ho5
      clear ho5 hT5 hf5
      have hrs := rsizes_any HP5.out.own.rd (by omega) (fun y hy => by have := (HP5.out.ok y hy).1; omega) n h0 h1
      rw [HSL.out] at hrs
      have HRS := Lib.hid hrs
      clear hrs
      go_wp2_with fail
      refine HRS.out.mono ?_
      rintro e w6 ⟨o6, rfl, ho6, hn6⟩
      obtain ⟨pA, pc, rfl, _⟩ := ho6.form
      have HP6 := Lib.hid (HP5.out.more hn6)
      have HE := Lib.hid (iequal_any _ _ sl sl _ (HO5.out.new hn6).rd ho6.rd (by omega) (by omega))
      clear ho6 hn6
      go_wp2_with fail
      refine HE.out.mono ?_
      first | rw [decide_eq_true rfl] | rw [decide_true]
      rintro e w7 ⟨rfl, hn7⟩
      have HP7 := Lib.hid (HP6.out.more hn7)
      clear hn7
      go_wp2
      go_roundw
      case rel => exact ⟨j + 1, _, X', Y', rfl, rfl, by go_num, by omega, by omega, HP7.out⟩
      case measure => simp [intOf]; omega
    · have hd : decide ((j : Int) < l.length) = false := decide_eq_false (by omega)
      have hYX : Y.length ≤ 1000 := by have := HP.out.len; omega
      go_wp2_with fail
      refine (salive_any _).mono ?_
      rintro e w4 ⟨rfl, hn4⟩
      have HP4 := Lib.hid (HP.out.more hn4)
      have hwi := twith_any HP4.out.made.tbl (by omega) f hf0
      rw [← HP4.out.eq] at hwi
      obtain ⟨sl, hsl⟩ : ∃ sl, ((withL (Y.map MB.m) f).mergeSort fun x y => decide (x ≤ y)) = sl := ⟨_, rfl⟩
      have hsll : sl.length ≤ 1000 := by
        rw [← hsl, List.length_mergeSort]
        unfold withL
        rw [List.length_map]
        have h1 := List.length_filter_le (fun m : Msg => decide (andI m.fl f = f)) (Y.map MB.m)
        have h2 : (Y.map MB.m).length = Y.length := List.length_map ..
        omega
      rw [hsl] at hwi
      have HWI := Lib.hid hwi
      have HSL := Lib.hid hsl
      clear hwi hsl hn4
      go_wp2_with fail
      refine HWI.out.mono ?_
      rintro e w5 ⟨o5, rfl, ho5, hT5, hf5⟩
      obtain ⟨oA, oc, rfl, _⟩ := ho5.form
      have HP5 : Hid (PS w w5 wb.heap.size T X (.slice vA Y.length vc) Y) := Lib.hid ⟨HP4.out.made.turn hT5 hf5, HP4.out.row HP4.out.own hf5, HP4.out.rd, HP4.out.eq⟩
      have HO5 := Lib.hid ho5
      clear ho5 hT5 hf5
      have hrw := rwith_any HP5.out.own.rd (by omega) HP5.out.nd (fun y hy => by have := (HP5.out.ok y hy); have h2 := this.1; have h3 := this.2; omega) f hf0
      rw [HSL.out] at hrw
      have HRW := Lib.hid hrw
      clear hrw
      go_wp2_with fail
      refine HRW.out.mono ?_
      rintro e w6 ⟨o6, rfl, ho6, hn6⟩
      obtain ⟨pA, pc, rfl, _⟩ := ho6.form
      have HP6 := Lib.hid (HP5.out.more hn6)
      have HE := Lib.hid (uequal_any _ _ sl sl _ (HO5.out.new hn6).rd ho6.rd (by omega) (by omega))
      clear ho6 hn6
      go_wp2_with fail
      refine HE.out.mono ?_
      first | rw [decide_eq_true rfl] | rw [decide_true]
      rintro e w7 ⟨rfl, hn7⟩
      go_wp2
      go_ret
      exact ⟨rfl, (HP6.out.more hn7).made.new⟩

/-- The law, its arguments in order. -/
theorem plays_law (a : Int) (x : Value × List SOp) (f : Int) (w : World) (h0 : 0 ≤ a) (h1 : a ≤ 255) (hx : Rd sopE w x.1 x.2 ∧ (∀ y ∈ x.2, y.inn w) ∧ x.2.length ≤ maxLen) (h2 : 0 ≤ f) (h3 : f ≤ 255) :
    Calls Try.prog 7 #[.int .u8 a, x.1, .int .u8 f] w fun e w' => e = .returned (.bool true) ∧ New w w' := by
  cases hq : fewP x.2 with
  | false => exact plays_few a x f w hx hq
  | true =>
    by_cases ha : a < 1 ∨ 16 < a
    · exact plays_none a x f w h0 h1 hx hq ha
    · obtain ⟨n, rfl⟩ := Int.eq_ofNat_of_zero_le h0
      exact plays_main n x f w (by omega) (by omega) hx hq ⟨h2, h3⟩

end Go.Proofs.Ytjnaihhkbbeaoaa
end

