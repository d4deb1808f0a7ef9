/- slices.Collect, slices.Sorted over slices.Values at []uint32. -/
import Derived.Test.YtmhhmenhfocfjaaIterU
import Derived.Test.YtmhhmenhfocfjaaSortU
import Derived.Maps.AppendAt
namespace Go.Proofs.Ytmhhmenhfocfjaa
open Go.RowKit Go.Shelf Go.Proofs
attribute [local go_sem] Oper.semAt_some

theorem uinfo : (Try.prog.info? 28).map (fun i => (i.zero, i.size, i.bytes)) = some (some (.int .u32 0), 1, 4) := by kernel_rfl

set_option maxRecDepth 100000 in
set_option maxHeartbeats 2000000 in
theorem uappend_in (F : Fence) (n : Nat) (h36 : F.fn 36) (h32 : F.fn 32) (hro : F.round = none) (hn : 3 ≤ n) (Bs : Nat) (sv : Value) (zs : List Int) (hlen : zs.length ≤ 1000000) (w : World) (hBs : Bs < w.heap.size)
    (hc : w.cell? ⟨Bs, 0, none⟩ = some sv) (hI : RdBelow w.heap.size w sv zs) :
    CallsIn F n Try.prog 36 #[.slice none 0 0, .func (.func 32) #[] #[.pointer (some ⟨Bs, 0, none⟩)]] w fun e W' => ∃ v, e = .returned v ∧ W'.ownsRow w.heap.size 28 1 v zs.length (zs.map (Value.int .u32)) ∧ (v = .slice none 0 0 ↔ zs = []) ∧ Below w.heap.size w W' := by
  have h1 : 1 ≤ n := by omega
  obtain ⟨i0, hi, hz0, hz1, hz2⟩ := info_parts uinfo
  refine callsIn_of_wp_marks Try.func36 rfl h36 ?_ hro
  simp only [Try.ntmps36, List.size_toArray, List.length_cons, List.length_nil, Nat.reduceAdd, Nat.reduceSub, Array.replicate_succ, Array.replicate_zero, List.push_toArray, List.append_toArray, List.nil_append, List.cons_append]
  gi_wp2
  have bO := Boxed.new w 22 (.slice none 0 0)
  have hB0 : Below w.heap.size w (w.alloc (.cells #[.slice none 0 0] 22)) := (Below.refl _ w).alloc (Nat.le_refl _) _
  refine wpIn_rangeFunc_ownG hro h1 (gf := 32) (lb := #[.pointer (some ⟨Bs, 0, none⟩)]) rfl h32 (enters_of Try.func32 (by kernel_rfl) rfl)
    (uvalues_stops F (n - 1) h32 hro (by omega) Bs w.heap.size sv zs hlen _ (by simp; omega) (by simp) ((hB0.cell (p := ⟨Bs, 0, none⟩) hBs).trans hc) (hI.below hB0)) belowK_t (belowK_b (by simp)) (Below.refl _ _) (fun _ => rfl)
    (fun pre W => (∃ v, Boxed W w.heap.size 22 v ∧ W.ownsRow w.heap.size 28 1 v pre.length (pre.map (Value.int .u32)) ∧ (v = .slice none 0 0 ↔ pre = [])) ∧ Below w.heap.size w W)
    (fun _ _ _ => False)
    (OwnFrom.and (Own.from (holdsRow_own w.heap.size w.heap.size 22 28 1 (fun pre => pre.length) (fun pre => pre.map (Value.int .u32)) (fun pre v => v = .slice none 0 0 ↔ pre = [])) _) (ownFrom_below (Nat.le_refl _) (by simp)))
    (fun _ _ _ _ _ hs _ _ => hs)
    ⟨⟨_, bO, World.ownsRow_nil _ _ _ _, by simp⟩, hB0⟩
    (fun x => { tmps := #[.slice none 0 0, .func (.func 32) #[] #[.pointer (some ⟨Bs, 0, none⟩)], .pointer (some ⟨w.heap.size, 0, none⟩), undef, .slice none 0 0, .int .u32 x, .func (.func 32) #[] #[.pointer (some ⟨Bs, 0, none⟩)], .int .u32 x, undef, undef, undef, undef, undef], defers := [] }) ?assign ?body ?done ?stop
  case assign =>
    intro l x W K hK
    gi_wp2
    exact hK
  case body =>
    rintro l pre x W ⟨⟨v, hv, hrow, hnil⟩, hB⟩ hlt
    have hcv := hv.cell
    gi_wp2_with (gi_at_builtin; refine wpListIn_append_own _ rfl _ _ 22 rfl w.heap.size 28 i0 (.int .u32 0) 1 4 Try.underlying22 hi hz0 hz1 hz2 rfl (by decide) _ _ _ rfl (hrow.alloc _) ⟨W.heap.size, 0, none⟩ 1 1 [.int .u32 x] rfl rfl (cell_one_new _ _ _) (by simp [Value.oneCell']) (by unfold maxLen; omega) (by omega) (by have := hB.size; simp; omega) ?_; intro v' w1 hown' hgrow _; obtain ⟨g', cap', rfl⟩ := ownsRow_succ hown'; obtain ⟨hv1, hv2, hr2, hk2, hb2⟩ := hv.appended (by decide) hrow hB.size (Nat.le_refl _) hown' hgrow; have hc1 := hv1.cell; have hf1 := hv1.frozen)
    exact ⟨hk2.from _, hb2, ⟨_, hv2, by simpa using hr2, by simp⟩, hB.trans hb2⟩
  case done =>
    rintro D ys W hD rfl ⟨⟨v, hv, hrow, hnil⟩, hB⟩ hK
    have hcv := hv.cell
    gi_wp2
    refine ⟨by simp, .inl ⟨_, _, rfl, run_takeDeferred hK, ?_⟩⟩
    exact ⟨_, results_tmp rfl _ _ _, v, rfl, ownsRow_putObj hrow _ hK rfl, hnil, hB.trans (belowK_b (w := w) (Nat.le_refl _) W D _ _ (by simp at hD; omega) hK rfl rfl)⟩
  case stop =>
    rintro D c pre W _ _ h _
    exact h.elim

set_option maxHeartbeats 1000000 in
theorem ucollect_any (Bs : Nat) (sv : Value) (zs : List Int) (hlen : zs.length ≤ 1000000) (w : World) (hBs : Bs < w.heap.size) (hc : w.cell? ⟨Bs, 0, none⟩ = some sv) (hI : RdBelow w.heap.size w sv zs) :
    Calls Try.prog 30 #[.func (.func 32) #[] #[.pointer (some ⟨Bs, 0, none⟩)]] w fun e W' => ∃ v, e = .returned v ∧ Go.Proofs.Ytmhhmenhfocfjaa.Own (intE .u32) 28 w.heap.size W' v zs ∧ New w W' := by
  have hA := (callsIn_wide (n := 5)).1 (uappend_in Fence.wide 5 trivial trivial rfl (by omega) Bs sv zs hlen w hBs hc hI)
  have HA := Lib.hid hA
  clear hA hI hc
  go_enter Try.func30, Try.ntmps30
  go_wp2_with fail
  refine HA.out.mono ?_
  rintro e w1 ⟨v, rfl, hrow, _, hb⟩
  go_wp2
  go_ret
  refine ⟨_, rfl, ?_, New.of_below hb⟩
  unfold Go.Proofs.Ytmhhmenhfocfjaa.Own
  rw [intE_cells]
  exact hrow

set_option maxHeartbeats 1000000 in
theorem usorted_any (Bs : Nat) (sv : Value) (zs : List Int) (hlen : zs.length ≤ 1000000) (w : World) (hBs : Bs < w.heap.size) (hc : w.cell? ⟨Bs, 0, none⟩ = some sv) (hI : RdBelow w.heap.size w sv zs) :
    Calls Try.prog 25 #[.func (.func 32) #[] #[.pointer (some ⟨Bs, 0, none⟩)]] w fun e W' => ∃ v, e = .returned v ∧ Go.Proofs.Ytmhhmenhfocfjaa.Own (intE .u32) 28 w.heap.size W' v (zs.mergeSort fun x y => decide (x ≤ y)) ∧ New w W' := by
  have HA := Lib.hid (ucollect_any Bs sv zs hlen w hBs hc hI)
  clear hI hc
  go_enter Try.func25, Try.ntmps25
  go_wp2_with fail
  refine HA.out.mono ?_
  rintro e w1 ⟨v, rfl, hown, hn⟩
  have HS := Lib.hid (usort_any hown (by omega))
  obtain ⟨A, n, c, rfl⟩ := own_shape hown
  have hlt := fun b hb => (hown.block (b := b) hb).1
  have HLT := Lib.hid hlt
  clear hlt
  go_wp2_with fail
  refine HS.out.mono ?_
  rintro e w2 ⟨rfl, hown2, hf2⟩
  go_wp2
  go_ret
  exact ⟨_, rfl, hown2, New.two hn hf2 HLT.out⟩

end Go.Proofs.Ytmhhmenhfocfjaa
