/- A message in cells; clone. -/
import Derived.Test.YtjnaihhkbbeaoaaMsgP
import Derived.Test.YtjnaihhkbbeaoaaOwnMore
import Derived.Test.YtjnaihhkbbeaoaaInts
import Derived.WalkKit
import Derived.WalkSpells
import Derived.WalkLawsBesides
import Derived.Deep.QuietTactic
import Derived.BigQuiet
import Derived.Lib.Hide
import Derived.Lib.SliceRun
namespace Go.Proofs.Ytjnaihhkbbeaoaa
open Go.RowKit

/-- A message, and where its body stands. -/
structure MB where
  m : Msg
  A : Option Addr
  n : Nat
  c : Nat

def MB.bv (x : MB) : Value := .slice x.A x.n x.c
def MB.val (x : MB) : Value := .agg #[.int .u32 x.m.uid, .int .u8 x.m.fl, .slice x.A x.n x.c]
def mbE : Elem MB where
  enc x := [.int .u32 x.m.uid, .int .u8 x.m.fl, .slice x.A x.n x.c]
  sz := 3
  len _ := rfl
  one x u hu := by simp at hu; rcases hu with rfl | rfl | rfl <;> rfl
  pos := by omega

theorem msg_info : (Try.prog.info? 34).map (fun i => (i.zero, i.size, i.bytes)) = some (some (.agg #[.int .u32 0, .int .u8 0, .slice none 0 0]), 3, 32) := by kernel_rfl
theorem u8_info : (Try.prog.info? 5).map (fun i => (i.zero, i.size, i.bytes)) = some (some (.int .u8 0), 1, 1) := by kernel_rfl
theorem zeroMsg (w : World) : (zeroValue 34).run Try.prog w = .ok (.agg #[.int .u32 0, .int .u8 0, .slice none 0 0]) w := by kernel_rfl

/-! clone -/
set_option maxHeartbeats 1600000 in
theorem bclone_any (v : Value) (l : List Int) (w : World) (hv : Rd (intE .u8) w v l) (hl : l.length ≤ 100000) :
    Calls Try.prog 43 #[v] w fun e w' => ∃ o, e = .returned o ∧ Own (intE .u8) 5 w.heap.size w' o l ∧ New w w' := by
  obtain ⟨i0, hi, hz0, hz1, hz2⟩ := info_parts u8_info
  have h0 := Own.iempty .u8 5 w.heap.size w (Nat.le_refl _)
  have HV := Lib.hid hv
  obtain ⟨A, c, rfl, hc, hcells⟩ := hv
  have hq := fun n => Lib.run_eql_slice_nil (P := Try.prog) w 32 _ A n c 0 0 Try.underlying32
  cases A with
  | none =>
    have hn : l = [] := by
      cases l with
      | nil => rfl
      | cons x l => obtain ⟨b, off, h, _⟩ := hcells (by simp); cases h
    clear hcells
    subst hn
    simp only [Option.isNone_none] at hq
    go_enter Try.func43, Try.ntmps43
    go_wp2
    go_ret
    exact ⟨_, rfl, Own.nil _ _ _ _, New.refl _⟩
  | some ad =>
    obtain ⟨b, off, sp⟩ := ad
    clear hcells
    simp only [Option.isNone_some] at hq
    go_enter Try.func43, Try.ntmps43
    go_wp2_with (at_builtin; refine wpList_append (E := intE .u8) rfl _ _ _ rfl Try.underlying32 hi hz0 hz1 hz2 rfl h0 rfl (HV.out.alloc _) rfl (by unfold maxLen; simp; omega) (by simp; omega) (by simp) ?_; intro v1 w1 hv1 hf1 hl1)
    have hn1 : New w w1 := New.append ((New.refl w).alloc _) h0 hf1
    rw [List.nil_append] at hv1
    go_ret
    exact ⟨_, rfl, hv1, hn1⟩

set_option maxRecDepth 100000 in
set_option maxHeartbeats 1600000 in
theorem mclone_any (x : MB) (w : World) (hv : Rd (intE .u8) w x.bv x.m.body) (hl : x.m.body.length ≤ 100000) :
    Calls Try.prog 29 #[x.val] w fun e w' => ∃ y : MB, e = .returned y.val ∧ y.m = x.m ∧ Own (intE .u8) 5 w.heap.size w' y.bv y.m.body ∧ New w w' := by
  obtain ⟨⟨uid, fl, body⟩, A, n, c⟩ := x
  simp only [MB.bv, MB.val] at hv hl ⊢
  have b1 : Blk ((w.alloc (.cells #[.int .u32 uid, .int .u8 fl, .slice A n c] 34)).alloc (.cells #[.int .u32 0, .int .u8 0, .slice none 0 0] 34)) w.heap.size 34 #[.int .u32 uid, .int .u8 fl, .slice A n c] := (Blk.new _ _ _).alloc _
  have b2 : Blk ((w.alloc (.cells #[.int .u32 uid, .int .u8 fl, .slice A n c] 34)).alloc (.cells #[.int .u32 0, .int .u8 0, .slice none 0 0] 34)) (w.heap.size + 1) 34 #[.int .u32 0, .int .u8 0, .slice none 0 0] := Blk.new1 _ _ _ _
  have hn1 : New w ((w.alloc (.cells #[.int .u32 uid, .int .u8 fl, .slice A n c] 34)).alloc (.cells #[.int .u32 0, .int .u8 0, .slice none 0 0] 34)) := ((New.refl w).alloc _).alloc _
  have HV := Lib.hid (hv.new hn1)
  clear hv
  go_enter Try.func29, Try.ntmps29
  go_wp2_with fail
  refine (bclone_any _ body _ HV.out hl).mono ?_
  rintro e w2 ⟨o, rfl, ho, hn2⟩
  obtain ⟨B, n', c', rfl⟩ := own_shape ho
  have e1 := hn2.blk b1
  have e2 := hn2.blk b2
  have q0 : w2.cell? ⟨w.heap.size, 0, none⟩ = some (.int .u32 uid) := e1.cell 0
  have q1 : w2.cell? ⟨w.heap.size, 1, none⟩ = some (.int .u8 fl) := e1.cell 1
  have q2 : w2.cell? ⟨w.heap.size, 2, none⟩ = some (.slice A n c) := e1.cell 2
  have f2 : w2.frozen? ⟨w.heap.size, 2, none⟩ = false := e1.frozen 2
  have p0 : w2.cell? ⟨w.heap.size + 1, 0, none⟩ = some (.int .u32 0) := e2.cell 0
  have p1 : w2.cell? ⟨w.heap.size + 1, 1, none⟩ = some (.int .u8 0) := e2.cell 1
  have p2 : w2.cell? ⟨w.heap.size + 1, 2, none⟩ = some (.slice none 0 0) := e2.cell 2
  have g0 : w2.frozen? ⟨w.heap.size + 1, 0, none⟩ = false := e2.frozen 0
  have g1 : w2.frozen? ⟨w.heap.size + 1, 1, none⟩ = false := e2.frozen 1
  have g2 : w2.frozen? ⟨w.heap.size + 1, 2, none⟩ = false := e2.frozen 2
  go_wp2
  have e3 : Blk ((((w2.setCell ⟨w.heap.size, 2, none⟩ (.slice B n' c')).setCell ⟨w.heap.size + 1, 0, none⟩ (.int .u32 uid)).setCell ⟨w.heap.size + 1, 1, none⟩ (.int .u8 fl)).setCell ⟨w.heap.size + 1, 2, none⟩ (.slice B n' c')) (w.heap.size + 1) 34 #[.int .u32 uid, .int .u8 fl, .slice B n' c'] :=
    (((e2.far (by simp) _).set_ 0 _).set_ 1 _).set_ 2 _
  have hn3 : Fr (fun k => k = w.heap.size ∨ k = w.heap.size + 1) w2 ((((w2.setCell ⟨w.heap.size, 2, none⟩ (.slice B n' c')).setCell ⟨w.heap.size + 1, 0, none⟩ (.int .u32 uid)).setCell ⟨w.heap.size + 1, 1, none⟩ (.int .u8 fl)).setCell ⟨w.heap.size + 1, 2, none⟩ (.slice B n' c')) :=
    ((((Fr.refl _ _).setCell (fun _ => .inl rfl) _).setCell (fun _ => .inr rfl) _).setCell (fun _ => .inr rfl) _).setCell (fun _ => .inr rfl) _
  refine bodyPost_ret (results_cell_row rfl _ _ _ _ _ _ _ rfl e3 Try.underlying34 rfl (by kernel_rfl)) rfl ?_
  refine ⟨⟨⟨uid, fl, body⟩, B, n', c'⟩, rfl, rfl, ?_, New.two (hn1.trans hn2) hn3 fun i hi => by rcases hi with rfl | rfl <;> omega⟩
  have hlo := fun b hb => (ho.block (b := b) hb).1
  refine (ho.fr hn3 fun b hb hs => ?_).mono (by simp; omega)
  have := hlo b hb
  simp at this
  rcases hs with rfl | rfl <;> omega

end Go.Proofs.Ytjnaihhkbbeaoaa
