/- StripeNil: the walk. -/
import Derived.Test.YtjnaihhkbbeaoaaStAlive
namespace Go.Proofs.Ytjnaihhkbbeaoaa
open Go.RowKit

/-- A message that comes in: its numbers fit, its body reads. -/
def MB.inn (W : World) (x : MB) : Prop := x.m.wf ∧ Rd (intE .u8) W x.bv x.m.body ∧ x.m.body.length ≤ maxLen

set_option maxRecDepth 100000 in
set_option maxHeartbeats 6400000 in
theorem nil_law (x : MB) (w : World) (hx : x.inn w) :
    Calls Try.prog 8 #[x.val] w fun e w' => e = .returned (.bool true) ∧ New w w' := by
  obtain ⟨hwf, hb, _⟩ := hx
  have hne := MB.len_eq hb
  obtain ⟨⟨uid, fl, body⟩, A, n, c⟩ := x
  dsimp only at hne
  subst hne
  have hnot : ∀ (x : Bool) (w : World), (Op.unary .not (.bool x)).run Try.prog w = .ok (.bool (!x)) w := fun _ _ => rfl
  have HB := Lib.hid hb
  have HWF := Lib.hid hwf
  simp only [MB.val]
  clear hb hwf
  rcases Nat.lt_or_ge 300 body.length with hl | hl
  · have hd : decide ((300 : Int) < body.length) = true := decide_eq_true (by omega)
    go_enter Try.func8, Try.ntmps8
    go_wp2_with fail
    refine (salive_any _).mono ?_
    rintro e w1 ⟨rfl, hn1⟩
    go_wp2
    go_ret
    exact ⟨rfl, ((New.refl w).alloc _).trans hn1⟩
  have hd : decide ((300 : Int) < body.length) = false := decide_eq_false (by omega)
  obtain ⟨wq, hwq⟩ : ∃ wq, wq = w.alloc (.cells #[.int .u32 uid, .int .u8 fl, .slice A body.length c] 34) := ⟨_, rfl⟩
  have hn1 : New w wq := by rw [hwq]; exact (New.refl w).alloc _
  have bg : Blk wq w.heap.size 34 #[.int .u32 uid, .int .u8 fl, .slice A body.length c] := by rw [hwq]; exact Blk.new _ _ _
  have HWQ := Lib.hid hwq
  clear hwq
  go_enter Try.func8, Try.ntmps8
  go_wp2_with fail
  rw [← HWQ.out]
  refine (tnew_any 2 (by omega) (by omega) _).mono ?_
  rintro e w1 ⟨T, rfl, hTn, hlo, hhi, hT, hn2⟩
  have HM := Lib.hid (Made.of hT hlo hhi hn2)
  clear hT
  go_wp2_with fail
  refine (tnew_any 2 (by omega) (by omega) _).mono ?_
  rintro e w2 ⟨T2, rfl, hTn2, hlo2, hhi2, hT2, hn3⟩
  have HM1 := Lib.hid (HM.out.more hn3)
  have HM2 := Lib.hid (Made.of hT2 hlo2 hhi2 hn3)
  have htop := HM.out.tbl.top
  have b2 := hn3.blk (hn2.blk bg)
  have c0 : w2.cell? ⟨w.heap.size, 0, none⟩ = some (.int .u32 uid) := b2.cell 0
  have c1 : w2.cell? ⟨w.heap.size, 1, none⟩ = some (.int .u8 fl) := b2.cell 1
  have c2 : w2.cell? ⟨w.heap.size, 2, none⟩ = some (.slice A body.length c) := b2.cell 2
  have hb2 := Lib.hid ((hn1.trans hn2).trans hn3)
  clear hT2 HM
  go_wp2_with fail
  refine (tput_any HM1.out.tbl (Nat.le_trans HM1.out.bs (Nat.le_refl _)) (by simp) ⟨⟨uid, fl, body⟩, A, body.length, c⟩ HWF.out (HB.out.new hb2.out)).mono ?_
  obtain ⟨pc, hpc⟩ : ∃ pc, putC (([] : List MB).map MB.m) ⟨uid, fl, body⟩ = pc := ⟨_, rfl⟩
  rw [hpc]
  rintro e w3 ⟨rfl, X, hX, hXl, hT3, hf3⟩
  have HM3 := Lib.hid (HM1.out.turn hT3 hf3)
  have hfn3 : Fr (fun i => wq.heap.size ≤ i) w2 w3 := fr_or hf3 fun i hi => by rw [← hlo]; exact hi.1
  have b3 := hfn3.blk b2 (by simp; have := hn1.size; have := bg.lt; omega)
  have HT2 := Lib.hid (HM2.out.tbl.fr hf3 (fun i hi hft => by have h1 := hi.2; have h2 := hft.1; omega) (fun v l hv b hb hs => by have h1 := (hv.block hb).1; have h2 := hs.2; have h3 := hn3.size; omega))
  have c30 : w3.cell? ⟨w.heap.size, 0, none⟩ = some (.int .u32 uid) := b3.cell 0
  have c31 : w3.cell? ⟨w.heap.size, 1, none⟩ = some (.int .u8 fl) := b3.cell 1
  have c32 : w3.cell? ⟨w.heap.size, 2, none⟩ = some (.slice A body.length c) := b3.cell 2
  have hs3 := b3.lt
  clear hX hXl hT3 hf3 hpc c0 c1 c2 b2 bg
  go_wp2_with fail
  refine (tget_nil uid _).mono ?_
  rintro e w4 ⟨rfl, hn4⟩
  have b4 := hn4.blk b3
  have c40 : w4.cell? ⟨w.heap.size, 0, none⟩ = some (.int .u32 uid) := b4.cell 0
  have hl4 := b4.lt
  simp only [MB.val, mb0, msg0]
  go_wp2_with fail
  refine (tremove_nil uid _).mono ?_
  rintro e w5 ⟨rfl, hn5⟩
  have b5 := hn5.blk (b4.alloc (.cells #[.int .u32 0, .int .u8 0, .slice none 0 0] 34))
  have c50 : w5.cell? ⟨w.heap.size, 0, none⟩ = some (.int .u32 uid) := b5.cell 0
  have hl5 := b5.lt
  simp only [MB.val, mb0, msg0]
  go_wp2_with fail
  refine (tflags_nil uid 0 0 _).mono ?_
  rintro e w6 ⟨rfl, hn6⟩
  have b6 := hn6.blk (b5.alloc (.cells #[.int .u32 0, .int .u8 0, .slice none 0 0] 34))
  have HN6 : Hid (New w3 w6) := Lib.hid (Fr.trans (Fr.trans (hn4.alloc (.cells #[.int .u32 0, .int .u8 0, .slice none 0 0] 34)) hn5 |>.alloc (.cells #[.int .u32 0, .int .u8 0, .slice none 0 0] 34)) hn6)
  clear hn4 hn5 hn6 b4 b5 b3 hl4 hl5 c30 c31 c32 c40 c50
  go_wp2_with fail
  refine (salive_any _).mono ?_
  rintro e w7 ⟨rfl, hn7⟩
  have b7 := hn7.blk b6
  have c70 : w7.cell? ⟨w.heap.size, 0, none⟩ = some (.int .u32 uid) := b7.cell 0
  have c71 : w7.cell? ⟨w.heap.size, 1, none⟩ = some (.int .u8 fl) := b7.cell 1
  have c72 : w7.cell? ⟨w.heap.size, 2, none⟩ = some (.slice A body.length c) := b7.cell 2
  go_wp2_with fail
  refine (tput_nil ⟨⟨uid, fl, body⟩, A, body.length, c⟩ _).mono ?_
  rintro e w8 ⟨rfl, hn8⟩
  have c80 : w8.cell? ⟨w.heap.size, 0, none⟩ = some (.int .u32 uid) := (hn8.blk b7).cell 0
  go_wp2_with fail
  refine (tstripes_nil _).mono ?_
  rintro e w9 ⟨rfl, rfl⟩
  go_wp2_with fail
  refine (tof_nil uid _).mono ?_
  rintro e w10 ⟨rfl, rfl⟩
  go_wp2_with fail
  refine (twith_nil 0 _).mono ?_
  rintro e w11 ⟨rfl, hn11⟩
  go_wp2_with fail
  refine (tsizes_nil _).mono ?_
  rintro e w12 ⟨rfl, rfl⟩
  have HN12 := Lib.hid (((HN6.out.trans hn7).trans hn8).trans hn11)
  have hT12 := HT2.out.new HN12.out
  go_wp2_with fail
  refine (twith_any hT12 (by simp) 0 (by omega)).mono ?_
  rw [show (withL (([] : List MB).map MB.m) 0) = [] from rfl, List.mergeSort_nil]
  rintro e w13 ⟨o, rfl, ho, hT13, hf13⟩
  obtain ⟨oA, oc, rfl, _⟩ := ho.form
  go_wp2
  go_ret
  refine ⟨by simp, New.two (hn1.trans (HM3.out.new.trans HN12.out)) hf13 fun i hi => ?_⟩
  have h1 := hi.1
  have h2 := hn1.size
  have h3 := hn2.size
  omega

end Go.Proofs.Ytjnaihhkbbeaoaa
