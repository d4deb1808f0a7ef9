/- The chapter's example of a table. -/
import Derived.Test.YtjnaihhkbbeaoaaWith
import Derived.Test.YtjnaihhkbbeaoaaIntSl
namespace Go.Proofs.Ytjnaihhkbbeaoaa
open Go.RowKit

theorem New.foot {w w1 w' : World} {T : Tb} (h : New w w1) (hf : Fr T.foot w1 w') (hlo : T.lo = w.heap.size) : New w w' := New.two h hf fun i hi => by rw [← hlo]; exact hi.1

/-- What is kept of a table that was made since w. -/
structure Made (w wr : World) (base : Nat) (T : Tb) (X : List MB) : Prop where
  tbl : TBX base wr T X
  lo : w.heap.size ≤ T.lo
  hi : T.hi ≤ base
  bs : base ≤ wr.heap.size
  new : New w wr

theorem Made.more {w wr w' : World} {base : Nat} {T : Tb} {X : List MB} (h : Made w wr base T X) (hn : New wr w') : Made w w' base T X := ⟨h.tbl.new hn, h.lo, h.hi, Nat.le_trans h.bs hn.size, h.new.trans hn⟩
theorem Made.turn {w wr w' : World} {base : Nat} {T : Tb} {X X' : List MB} (h : Made w wr base T X) (ht : TBX base w' T X') (hf : Fr T.foot wr w') : Made w w' base T X' :=
  ⟨ht, h.lo, h.hi, Nat.le_trans h.bs hf.size, New.two h.new hf fun _ hi => Nat.le_trans h.lo hi.1⟩
theorem Made.of {w w' : World} {T : Tb} {X : List MB} (h : TBX w'.heap.size w' T X) (hlo : T.lo = w.heap.size) (hhi : T.hi = w'.heap.size) (hn : New w w') : Made w w' w'.heap.size T X := ⟨h, Nat.le_of_eq hlo.symm, Nat.le_of_eq hhi, Nat.le_refl _, hn⟩

set_option maxRecDepth 100000 in
set_option maxHeartbeats 3200000 in
theorem salive_any (w : World) : Calls Try.prog 10 #[] w fun e w' => e = .returned (.bool true) ∧ New w w' := by
  go_enter Try.func10, Try.ntmps10
  go_wp2_with fail
  refine (tnew_any 4 (by omega) (by omega) _).mono ?_
  rintro e w1 ⟨T, rfl, hn4, hlo, hhi, hT, hn1⟩
  have HM := Lib.hid (Made.of hT hlo hhi hn1)
  clear hT hn1 hlo hhi
  have hof := fun wr (h : TBX w1.heap.size wr T []) => tof_any h 7 (by omega) (by omega)
  rw [hn4] at hof
  have HOF := Lib.hid hof
  clear hof
  go_wp2_with fail
  refine (HOF.out _ HM.out.tbl).mono ?_
  rintro e w2 ⟨rfl, rfl⟩
  go_wp2_with fail
  refine (tput_any HM.out.tbl HM.out.bs (by simp) ⟨⟨7, 8, []⟩, none, 0, 0⟩ (by simp [Msg.wf]) (Rd.nil _ _)).mono ?_
  rw [show putC (([] : List MB).map MB.m) ⟨7, 8, []⟩ = 0 from rfl, show putM (([] : List MB).map MB.m) ⟨7, 8, []⟩ = [⟨7, 8, []⟩] from rfl]
  rintro e w3 ⟨rfl, X, hX, hXl, hT3, hf3⟩
  have HM3 := Lib.hid (HM.out.turn hT3 hf3)
  have hXl : X.length ≤ 1 := hXl
  have HX := Lib.hid hX
  clear hX hT3 hf3 HM HOF
  go_wp2_with fail
  refine (tsizes_any HM3.out.tbl).mono ?_
  rw [HX.out, hn4, show sizesM 4 [(⟨7, 8, []⟩ : Msg)] = [0, 0, 0, 1] from by decide]
  rintro e w4 ⟨o, rfl, ho, hT4, hf4⟩
  have HM4 := Lib.hid (HM3.out.turn hT4 hf4)
  obtain ⟨oA, oc, rfl, _⟩ := ho.form
  have HO := Lib.hid ho
  clear ho hT4 hf4 HM3
  go_wp2_with fail
  refine (iequal_any _ _ [0, 0, 0, 1] [0, 0, 0, 1] _ (HO.out.rd.alloc _) (rd_block (intE .i64) (Blk.new _ _ _) [0, 0, 0, 1] rfl) (by simp) (by simp)).mono ?_
  rw [decide_eq_true rfl]
  rintro e w5 ⟨rfl, hn5⟩
  have HM5 := Lib.hid (HM4.out.more (((New.refl _).alloc _).trans hn5))
  clear hn5 HM4
  go_wp2_with fail
  refine (twith_any HM5.out.tbl (by omega) 8 (by omega)).mono ?_
  rw [HX.out, show (withL [(⟨7, 8, []⟩ : Msg)] 8) = [7] from by decide, List.mergeSort_singleton]
  rintro e w6 ⟨o, rfl, ho, hT6, hf6⟩
  have HM6 := Lib.hid (HM5.out.turn hT6 hf6)
  obtain ⟨oA, oc, rfl, _⟩ := ho.form
  have HO := Lib.hid ho
  clear ho hT6 hf6 HM5
  go_wp2_with fail
  refine (uequal_any _ _ [7] [7] _ (HO.out.rd.alloc _) (rd_block (intE .u32) (Blk.new _ _ _) [7] rfl) (by simp) (by simp)).mono ?_
  rw [decide_eq_true rfl]
  rintro e w7 ⟨rfl, hn7⟩
  go_wp2
  go_ret
  exact ⟨rfl, (HM6.out.more (((New.refl _).alloc _).trans hn7)).new⟩

end Go.Proofs.Ytjnaihhkbbeaoaa
