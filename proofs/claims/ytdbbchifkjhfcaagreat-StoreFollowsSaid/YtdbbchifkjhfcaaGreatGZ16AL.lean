/- Part 12 of the proofs of chapter Z16: CollectU, CompactP, CompactU, Idx, AscP, IdxApp. -/
import Derived.Test.YtdbbchifkjhfcaaGreatGZ16AK
import Derived.Maps.AppendAt
import Derived.WalkSpells
import Derived.WalkLawsBesides
import Derived.Deep.QuietTactic
import Derived.BigQuiet
import Derived.Lib.Hide
import Derived.Deep.RegionHeld3
import Derived.Deep.AppendSrc

section
/- slices.Collect, slices.Sorted over slices.Values at []uint32. -/
namespace Go.Proofs.YtdbbchifkjhfcaaGreat
open Go.RowKit Go.Shelf Go.Proofs
attribute [local go_sem] Oper.semAt_some

theorem uinfo : (Tryz.prog.info? 26).map (fun i => (i.zero, i.size, i.bytes)) = some (some (.int .u32 0), 1, 4) := by kernel_rfl

set_option maxRecDepth 100000 in
set_option maxHeartbeats 2000000 in
theorem uappend_in (F : Fence) (n : Nat) (h36 : F.fn 95) (h32 : F.fn 76) (hro : F.round = none) (hn : 3 ≤ n) (Bs : Nat) (sv : Value) (zs : List Int) (hlen : zs.length ≤ 1000000) (w : World) (hBs : Bs < w.heap.size)
    (hc : w.cell? ⟨Bs, 0, none⟩ = some sv) (hI : RdBelow w.heap.size w sv zs) :
    CallsIn F n Tryz.prog 95 #[.slice none 0 0, .func (.func 76) #[] #[.pointer (some ⟨Bs, 0, none⟩)]] w fun e W' => ∃ v, e = .returned v ∧ W'.ownsRow w.heap.size 26 1 v zs.length (zs.map (Value.int .u32)) ∧ (v = .slice none 0 0 ↔ zs = []) ∧ Below w.heap.size w W' := by
  have h1 : 1 ≤ n := by omega
  obtain ⟨i0, hi, hz0, hz1, hz2⟩ := info_parts uinfo
  refine callsIn_of_wp_marks Tryz.func95 rfl h36 ?_ hro
  simp only [Tryz.ntmps95, List.size_toArray, List.length_cons, List.length_nil, Nat.reduceAdd, Nat.reduceSub, Array.replicate_succ, Array.replicate_zero, List.push_toArray, List.append_toArray, List.nil_append, List.cons_append]
  gi_wp2
  have bO := Boxed.new w 27 (.slice none 0 0)
  have hB0 : Below w.heap.size w (w.alloc (.cells #[.slice none 0 0] 27)) := (Below.refl _ w).alloc (Nat.le_refl _) _
  refine wpIn_rangeFunc_ownG hro h1 (gf := 76) (lb := #[.pointer (some ⟨Bs, 0, none⟩)]) rfl h32 (enters_of Tryz.func76 (by kernel_rfl) rfl)
    (uvalues_stops F (n - 1) h32 hro (by omega) Bs w.heap.size sv zs hlen _ (by simp; omega) (by simp) ((hB0.cell (p := ⟨Bs, 0, none⟩) hBs).trans hc) (hI.below hB0)) belowK_t (belowK_b (by simp)) (Below.refl _ _) (fun _ => rfl)
    (fun pre W => (∃ v, Boxed W w.heap.size 27 v ∧ W.ownsRow w.heap.size 26 1 v pre.length (pre.map (Value.int .u32)) ∧ (v = .slice none 0 0 ↔ pre = [])) ∧ Below w.heap.size w W)
    (fun _ _ _ => False)
    (OwnFrom.and (Own.from (holdsRow_own w.heap.size w.heap.size 27 26 1 (fun pre => pre.length) (fun pre => pre.map (Value.int .u32)) (fun pre v => v = .slice none 0 0 ↔ pre = [])) _) (ownFrom_below (Nat.le_refl _) (by simp)))
    (fun _ _ _ _ _ hs _ _ => hs)
    ⟨⟨_, bO, World.ownsRow_nil _ _ _ _, by simp⟩, hB0⟩
    (fun x => { tmps := #[.slice none 0 0, .func (.func 76) #[] #[.pointer (some ⟨Bs, 0, none⟩)], .pointer (some ⟨w.heap.size, 0, none⟩), undef, .slice none 0 0, .int .u32 x, .func (.func 76) #[] #[.pointer (some ⟨Bs, 0, none⟩)], .int .u32 x, undef, undef, undef, undef, undef], defers := [] }) ?assign ?body ?done ?stop
  case assign =>
    intro l x W K hK
    gi_wp2
    exact hK
  case body =>
    rintro l pre x W ⟨⟨v, hv, hrow, hnil⟩, hB⟩ hlt
    have hcv := hv.cell
    gi_wp2_with (gi_at_builtin; refine wpListIn_append_own _ rfl _ _ 27 rfl w.heap.size 26 i0 (.int .u32 0) 1 4 Tryz.underlying27 hi hz0 hz1 hz2 rfl (by decide) _ _ _ rfl (hrow.alloc _) ⟨W.heap.size, 0, none⟩ 1 1 [.int .u32 x] rfl rfl (cell_one_new _ _ _) (by simp [Value.oneCell']) (by unfold maxLen; omega) (by omega) (by have := hB.size; simp; omega) ?_; intro v' w1 hown' hgrow _; obtain ⟨g', cap', rfl⟩ := ownsRow_succ hown'; obtain ⟨hv1, hv2, hr2, hk2, hb2⟩ := hv.appended (by decide) hrow hB.size (Nat.le_refl _) hown' hgrow; have hc1 := hv1.cell; have hf1 := hv1.frozen)
    exact ⟨hk2.from _, hb2, ⟨_, hv2, by simpa using hr2, by simp⟩, hB.trans hb2⟩
  case done =>
    rintro D ys W hD rfl ⟨⟨v, hv, hrow, hnil⟩, hB⟩ hK
    have hcv := hv.cell
    gi_wp2
    refine ⟨by simp, .inl ⟨_, _, rfl, run_takeDeferred hK, ?_⟩⟩
    exact ⟨_, results_tmp rfl _ _ _, v, rfl, ownsRow_putObj hrow _ hK rfl, hnil, hB.trans (belowK_b (w := w) (Nat.le_refl _) W D _ _ (by simp at hD; omega) hK rfl rfl)⟩
  case stop =>
    rintro D c pre W _ _ h _
    exact h.elim

set_option maxHeartbeats 1000000 in
theorem ucollect_any (Bs : Nat) (sv : Value) (zs : List Int) (hlen : zs.length ≤ 1000000) (w : World) (hBs : Bs < w.heap.size) (hc : w.cell? ⟨Bs, 0, none⟩ = some sv) (hI : RdBelow w.heap.size w sv zs) :
    Calls Tryz.prog 75 #[.func (.func 76) #[] #[.pointer (some ⟨Bs, 0, none⟩)]] w fun e W' => ∃ v, e = .returned v ∧ Go.Proofs.YtdbbchifkjhfcaaGreat.Own (intE .u32) 26 w.heap.size W' v zs ∧ New w W' := by
  have hA := (callsIn_wide (n := 5)).1 (uappend_in Fence.wide 5 trivial trivial rfl (by omega) Bs sv zs hlen w hBs hc hI)
  have HA := Lib.hid hA
  clear hA hI hc
  go_enter Tryz.func75, Tryz.ntmps75
  go_wp2_with fail
  refine HA.out.mono ?_
  rintro e w1 ⟨v, rfl, hrow, _, hb⟩
  go_wp2
  go_ret
  refine ⟨_, rfl, ?_, New.of_below hb⟩
  unfold Go.Proofs.YtdbbchifkjhfcaaGreat.Own
  rw [intE_cells]
  exact hrow

set_option maxHeartbeats 1000000 in
theorem usorted_any (Bs : Nat) (sv : Value) (zs : List Int) (hlen : zs.length ≤ 1000000) (w : World) (hBs : Bs < w.heap.size) (hc : w.cell? ⟨Bs, 0, none⟩ = some sv) (hI : RdBelow w.heap.size w sv zs) :
    Calls Tryz.prog 50 #[.func (.func 76) #[] #[.pointer (some ⟨Bs, 0, none⟩)]] w fun e W' => ∃ v, e = .returned v ∧ Go.Proofs.YtdbbchifkjhfcaaGreat.Own (intE .u32) 26 w.heap.size W' v (zs.mergeSort fun x y => decide (x ≤ y)) ∧ New w W' := by
  have HA := Lib.hid (ucollect_any Bs sv zs hlen w hBs hc hI)
  clear hI hc
  go_enter Tryz.func50, Tryz.ntmps50
  go_wp2_with fail
  refine HA.out.mono ?_
  rintro e w1 ⟨v, rfl, hown, hn⟩
  have HS := Lib.hid (usort_any hown (by omega))
  obtain ⟨A, n, c, rfl⟩ := own_shape hown
  have hlt := fun b hb => (hown.block (b := b) hb).1
  have HLT := Lib.hid hlt
  clear hlt
  go_wp2_with fail
  refine HS.out.mono ?_
  rintro e w2 ⟨rfl, hown2, hf2⟩
  go_wp2
  go_ret
  exact ⟨_, rfl, hown2, New.two hn hf2 HLT.out⟩

end Go.Proofs.YtdbbchifkjhfcaaGreat
end

section
/- Adjacent doubles struck from a list. Plain lemmas; of no program. -/
namespace Go.Proofs.YtdbbchifkjhfcaaGreat

def compactP : List Int → List Int
  | [] => []
  | x :: l => if l.head? = some x then compactP l else x :: compactP l

theorem compactP_snoc (l : List Int) (x y : Int) : compactP (l ++ [x, y]) = if x = y then compactP (l ++ [x]) else compactP (l ++ [x]) ++ [y] := by
  induction l with
  | nil =>
    by_cases h : x = y
    · subst h
      simp [compactP]
    · have h' : ¬ y = x := fun e => h e.symm
      simp [compactP, h, h']
  | cons a l ih =>
    have hh : (l ++ [x, y]).head? = (l ++ [x]).head? := by cases l <;> rfl
    simp only [List.cons_append, compactP]
    rw [hh, ih]
    by_cases h1 : (l ++ [x]).head? = some a
    · simp only [h1, if_true]
    · simp only [h1, if_false]
      by_cases h2 : x = y
      · simp only [h2, if_true]
      · simp only [h2, if_false, List.cons_append]
theorem compactP_take {l : List Int} {p : Nat} {x y : Int} (hp : l[p]? = some x) (hy : l[p + 1]? = some y) : compactP (l.take (p + 2)) = if x = y then compactP (l.take (p + 1)) else compactP (l.take (p + 1)) ++ [y] := by
  have h1 : l.take (p + 1) = l.take p ++ [x] := by
    have hk := (List.getElem?_eq_some_iff.1 hp)
    rw [List.take_succ_eq_append_getElem hk.1, hk.2]
  have h2 : l.take (p + 2) = l.take p ++ [x, y] := by
    have hk := (List.getElem?_eq_some_iff.1 hy)
    rw [List.take_succ_eq_append_getElem hk.1, hk.2, h1]
    simp
  rw [h2, h1, compactP_snoc]
theorem compactP_length (l : List Int) : (compactP l).length ≤ l.length := by
  induction l with
  | nil => exact Nat.le_refl _
  | cons x l ih =>
    unfold compactP
    split
    · rw [List.length_cons]; omega
    · rw [List.length_cons, List.length_cons]; omega
theorem mem_compactP (l : List Int) (x : Int) : x ∈ compactP l ↔ x ∈ l := by
  induction l with
  | nil => exact Iff.rfl
  | cons y l ih =>
    unfold compactP
    split
    · rename_i h
      rw [ih, List.mem_cons]
      constructor
      · exact .inr
      · rintro (h1 | h1)
        · subst h1
          exact List.mem_of_head? h
        · exact h1
    · rw [List.mem_cons, List.mem_cons, ih]
theorem compactP_sorted {l : List Int} (h : l.Pairwise (· ≤ ·)) : (compactP l).Pairwise (· < ·) := by
  induction l with
  | nil => exact List.Pairwise.nil
  | cons y l ih =>
    have h1 := List.pairwise_cons.1 h
    unfold compactP
    split
    · exact ih h1.2
    · rename_i hne
      refine List.pairwise_cons.2 ⟨fun z hz => ?_, ih h1.2⟩
      rw [mem_compactP] at hz
      cases l with
      | nil => cases hz
      | cons a l =>
        have hya := h1.1 a List.mem_cons_self
        have hne' : a ≠ y := fun e => hne (by rw [e]; rfl)
        rcases List.mem_cons.1 hz with rfl | hz
        · omega
        · have := (List.pairwise_cons.1 h1.2).1 z hz
          omega
/-- What is strictly ascending has no doubles to strike. -/
theorem compactP_id {l : List Int} (h : l.Pairwise (· < ·)) : compactP l = l := by
  induction l with
  | nil => rfl
  | cons y l ih =>
    have h1 := List.pairwise_cons.1 h
    unfold compactP
    rw [if_neg, ih h1.2]
    intro hh
    have := h1.1 y (List.mem_of_head? hh)
    omega

end Go.Proofs.YtdbbchifkjhfcaaGreat
end

section
/- slices.Compact at []uint32. -/
namespace Go.Proofs.YtdbbchifkjhfcaaGreat
open Go.RowKit

set_option maxRecDepth 100000 in
set_option maxHeartbeats 3200000 in
theorem ucompact_any (base : Nat) (v : Value) (l : List Int) (w : World) (hv : Own (intE .u32) 26 base w v l) (hl : l.length ≤ 100000) :
    Calls Tryz.prog 49 #[v] w fun e w' => ∃ o, e = .returned o ∧ Own (intE .u32) 26 base w' o (compactP l) ∧ Fr (fun k => v.ownBlock = some k) w w' ∧ (o.ownBlock = v.ownBlock) := by
  have hzero : ∀ w, (zeroValue 26).run Tryz.prog w = .ok (.int .u32 0) w := fun w => by kernel_rfl
  obtain ⟨A, c, rfl, hc⟩ := hv.form
  by_cases h2 : l.length < 2
  · have hid : compactP l = l := by
      match l, h2 with
      | [], _ => rfl
      | [x], _ => simp [compactP]
    rw [hid]
    clear hid
    go_enter Tryz.func49, Tryz.ntmps49
    go_wp2
    go_ret
    exact ⟨_, rfl, hv, Fr.refl _ _, rfl⟩
  · obtain ⟨gg, rfl⟩ := hv.some1 (by omega)
    have hcell : ∀ i x, l[i]? = some x → w.cell? ⟨gg, i, none⟩ = some (.int .u32 x) := fun i x hx => hv.icell hx
    have HCL := Lib.hid hcell
    obtain ⟨r, hr⟩ : ∃ r, compactP l = r := ⟨_, rfl⟩
    rw [hr]
    have HRE := Lib.hid hr
    have hd2 : decide ((l.length : Int) < 2) = false := decide_eq_false (by omega)
    clear hcell hr
    go_enter Tryz.func49, Tryz.ntmps49
    go_wp2
    go_loopw [3] (fun vi wr => ∃ k : Nat, 1 ≤ k ∧ k ≤ l.length ∧ vi = .int .i64 k ∧ Hid (compactP (l.take k) = l.take k) ∧ New w wr) (fun vi _ => l.length - (intOf vi).toNat)
    case atStart =>
      refine ⟨1, by omega, by omega, rfl, ?_, New.refl _⟩
      match l, h2 with
      | [], h => exact absurd (by simp) h
      | x :: l, _ => show compactP [x] = [x]; simp [compactP]
    case round =>
      obtain ⟨k, hk1, hk, rfl, HS, hnew⟩ := hrel
      by_cases hkl : k < l.length
      · obtain ⟨x, hx⟩ : ∃ x, l[k - 1]? = some x := ⟨_, List.getElem?_eq_getElem (by omega)⟩
        obtain ⟨y, hy⟩ : ∃ y, l[k]? = some y := ⟨_, List.getElem?_eq_getElem hkl⟩
        have e0 : wr.cell? ⟨gg, k - 1, none⟩ = some (.int .u32 x) := Fr.cell hnew (HCL.out _ x hx) id
        have e1 : wr.cell? ⟨gg, k, none⟩ = some (.int .u32 y) := Fr.cell hnew (HCL.out k y hy) id
        have hstep : compactP (l.take (k + 1)) = if x = y then l.take k else l.take k ++ [y] := by
          obtain ⟨q, rfl⟩ : ∃ q, k = q + 1 := ⟨k - 1, by omega⟩
          rw [compactP_take (by simpa using hx) hy, HS.out]
        have htk : l.take (k + 1) = l.take k ++ [y] := take_snocI hy
        have HST := Lib.hid hstep
        have HTK := Lib.hid htk
        have hwk : IntKind.i64.wrap ((k : Int) - 1) = (k : Int) - 1 := IntWalk.i64_in _ (by omega)
        have hwn : ((k : Int) - 1).toNat = k - 1 := by omega
        have hk0 : 0 ≤ (k : Int) - 1 := by omega
        clear hx hy hstep htk
        by_cases hxy : x = y
        · subst hxy
          have hst := HST.out
          rw [if_pos rfl] at hst
          have HST2 := Lib.hid hst
          clear hst
          go_wp2_with fail
          go_quiet (fail)
          go_wp2
          have hnq := hnew.drewN nq
          have hv1 := hv.new hnq
          generalize wr.drewN nq = wo at *
          go_loopw [3, 5] (fun v3 v5 wi => ∃ (kk k2 : Nat) (m : List Int), 1 ≤ k2 ∧ k + k2 ≤ l.length ∧ kk + 1 ≤ k + k2 ∧ v3 = .int .i64 kk ∧ v5 = .int .i64 k2 ∧ m.length = l.length ∧ Hid (∀ j, kk ≤ j → m[j]? = l[j]?) ∧ Hid (m.take kk = compactP (l.take (k + k2))) ∧
            Own (intE .u32) 26 base wi (.slice (some ⟨gg, 0, none⟩) l.length c) m ∧ Fr (fun q => gg = q) wo wi) (fun _ v5 _ => l.length - (intOf v5).toNat)
          case atStart => exact ⟨k, 1, l, Nat.le_refl _, by omega, Nat.le_refl _, rfl, rfl, rfl, fun _ _ => rfl, by show l.take k = compactP (l.take (k + 1)); rw [HST2.out], hv1, Fr.refl _ _⟩
          case round =>
            obtain ⟨kk, k2, m, hk21, hk2l, hkk, rfl, rfl, hm, HM, HT, ho, hf⟩ := hrel
            clear hv1 e0 e1
            by_cases hlt : k + k2 < l.length
            · obtain ⟨x', hx⟩ : ∃ x, l[k + (k2 - 1)]? = some x := ⟨_, List.getElem?_eq_getElem (by omega)⟩
              obtain ⟨y', hy⟩ : ∃ y, l[k + k2]? = some y := ⟨_, List.getElem?_eq_getElem hlt⟩
              obtain ⟨z, hz⟩ : ∃ z, m[kk]? = some z := ⟨_, List.getElem?_eq_getElem (by omega)⟩
              have e0 : wr.cell? ⟨gg, k + (k2 - 1), none⟩ = some (.int .u32 x') := ho.icell (by rw [HM.out _ (by omega)]; exact hx)
              have e1 : wr.cell? ⟨gg, k + k2, none⟩ = some (.int .u32 y') := ho.icell (by rw [HM.out _ (by omega)]; exact hy)
              have hstep : compactP (l.take (k + k2 + 1)) = if x' = y' then m.take kk else m.take kk ++ [y'] := by
                obtain ⟨q, hq⟩ : ∃ q, k + k2 = q + 1 := ⟨k + (k2 - 1), by omega⟩
                have hq2 : k + (k2 - 1) = q := by omega
                rw [hq2] at hx
                have := HT.out
                rw [hq] at hy this ⊢
                rw [compactP_take hx hy, this]
              have HST3 := Lib.hid hstep
              have hwk2 : IntKind.i64.wrap ((k2 : Int) - 1) = (k2 : Int) - 1 := IntWalk.i64_in _ (by omega)
              have hwn2 : ((k2 : Int) - 1).toNat = k2 - 1 := by omega
              have hk20 : 0 ≤ (k2 : Int) - 1 := by omega
              have hzc : ∀ n, (wr.drewN n).cell? ⟨gg, kk, none⟩ = some (.int .u32 z) := fun n => ho.icell hz
              have hzf : ∀ n, (wr.drewN n).frozen? ⟨gg, kk, none⟩ = false := fun n => ho.ifrozen _
              have HY := Lib.hid hy
              clear hx hy hz hstep
              by_cases hxy : x' = y'
              · subst hxy
                go_wp2_with fail
                go_quiet (fail)
                go_wp2
                go_roundw
                case rel =>
                  refine ⟨kk, k2 + 1, m, by omega, by omega, by omega, rfl, by go_num, hm, HM.out, ?_, ho.fr (S := fun _ => False) ((Fr.refl _ _).drewN _) (fun _ _ => id), hf.drewN _⟩
                  have hst := HST3.out
                  first | rw [if_pos rfl] at hst | rw [if_pos True.intro] at hst
                  exact hst.symm
                case measure => simp [intOf]; omega
              · have hq : (y' != x') = true := by simp; exact fun e => hxy e.symm
                go_wp2_with fail
                go_quiet (fail)
                have hst := HST3.out
                rw [if_neg hxy] at hst
                have HST4 := Lib.hid hst
                have hos := fun n => Own.istored (ho.fr (S := fun _ => False) ((Fr.refl _ wr).drewN n) (fun _ _ => id)) kk y'
                have HOS := Lib.hid hos
                have hkm : kk < m.length := by omega
                clear hst hos
                go_wp2
                go_roundw
                case rel =>
                  refine ⟨kk + 1, k2 + 1, m.set kk y', by omega, by omega, by omega, by go_num, by go_num, by rw [List.length_set]; exact hm, fun j hj => ?_, ?_, HOS.out _, ?_⟩
                  · rw [List.getElem?_set_ne (by omega)]
                    exact HM.out j (by omega)
                  · show (m.set kk y').take (kk + 1) = compactP (l.take (k + k2 + 1))
                    rw [HST4.out, take_snocI (List.getElem?_set_self hkm), List.take_set_of_le (Nat.le_refl _)]
                  · exact Fr.setCell (p := ⟨gg, _, none⟩) (hf.drewN _) (fun _ => rfl) _
                case measure => simp [intOf]; omega
            · have hkl2 : k + k2 = l.length := by omega
              have ht := HT.out
              rw [hkl2, List.take_length, HRE.out] at ht
              subst ht
              have hz1 : ∀ u ∈ (Value.int .u32 0).cells.toList, u.oneCell' = true := by
                intro u hu
                have hu2 : u ∈ [Value.int .u32 0] := hu
                rw [List.mem_singleton.1 hu2]
                rfl
              obtain ⟨w3, hr3, ho3, hf3⟩ := run_clear_own (P := Tryz.prog) (E := intE .u32) (ty := 0) Tryz.underlying27 hzero rfl hz1 ho kk (c - kk) (by omega)
              have hr3' : (Builtin.clear_ #[27] 0 #[.slice (some ⟨gg, kk, none⟩) (l.length - kk) (c - kk)]).run Tryz.prog wr = .ok (.tuple #[]) w3 := by
                have e1 : kk * (intE .u32).sz = kk := Nat.mul_one kk
                rw [e1] at hr3
                exact hr3
              clear hr3
              go_wp2
              go_ret
              exact ⟨_, rfl, ho3, (New.to hnq).trans (hf.trans (hf3.mono fun _ _ h => h.symm) |>.mono fun _ _ h => by rw [h]; rfl), rfl⟩
        · have hq : (y == x) = false := by simp; exact fun e => hxy e.symm
          go_wp2_with fail
          go_quiet (fail)
          go_wp2
          go_roundw
          case rel =>
            refine ⟨k + 1, by omega, by omega, by go_num, ?_, hnew.drewN _⟩
            have hst := HST.out
            rw [if_neg hxy] at hst
            show compactP (l.take (k + 1)) = l.take (k + 1)
            rw [hst, HTK.out]
          case measure => simp [intOf]; omega
      · obtain rfl : k = l.length := by omega
        have hrl : r = l := by
          rw [← HRE.out]
          have := HS.out
          rw [List.take_length] at this
          exact this
        subst hrl
        go_wp2
        go_ret
        exact ⟨_, rfl, hv.new hnew, New.to hnew, rfl⟩

end Go.Proofs.YtdbbchifkjhfcaaGreat
end

section
/- An index: New. -/
namespace Go.Proofs.YtdbbchifkjhfcaaGreat
open Go.RowKit

/-- The list that New keeps. -/
def idxOf (l : List Int) : List Int := match compactP (l.mergeSort fun x y => decide (x ≤ y)) with
  | [] => []
  | x :: t => if x = 0 then t else x :: t

theorem URow.notNew {base : Nat} {w : World} {v : Value} {l : List Int} (h : URow base w v l) : v.ownBlock ≠ some w.heap.size := fun e => absurd (h.block e).2 (Nat.lt_irrefl _)

theorem compactP_le (l : List Int) : (compactP l).length ≤ l.length := by
  induction l with
  | nil => simp [compactP]
  | cons x l ih =>
    unfold compactP
    split
    · simp; omega
    · simp; omega

set_option maxRecDepth 100000 in
set_option maxHeartbeats 1600000 in
theorem inew_any {v : Value} {l : List Int} {w : World} (hv : Rd (intE .u32) w v l) (hl : l.length ≤ 1000) :
    Calls Tryz.prog 30 #[v] w fun e w' => ∃ x u, e = .returned (.pointer (some ⟨x, 0, none⟩)) ∧ w.heap.size ≤ x ∧ Blk w' x 115 #[u] ∧ Go.Proofs.YtdbbchifkjhfcaaGreat.URow w.heap.size w' u (idxOf l) ∧ u.ownBlock ≠ some x ∧ New w w' := by
  obtain ⟨A, c, rfl, _, _⟩ := hv.ints
  have hn1 : New w (w.alloc (.cells #[.slice A l.length c] 27)) := (New.refl w).alloc _
  have hbx : Blk (w.alloc (.cells #[.slice A l.length c] 27)) w.heap.size 27 #[.slice A l.length c] := Blk.new _ _ _
  have hcl0 := fun b hb hne => Rd.cell_lt hv (b := b) hb hne
  have hrb : RdBelow (w.alloc (.cells #[.slice A l.length c] 27)).heap.size (w.alloc (.cells #[.slice A l.length c] 27)) (.slice A l.length c) l :=
    RdBelow.of (hv.new hn1) fun hne b hb => by have := hcl0 b hb hne; simp; omega
  have hso := usorted_any w.heap.size (.slice A l.length c) l (by omega) _ hbx.lt (hbx.cell 0) hrb
  have HSO := Lib.hid hso
  have HV := fun a n cp W => Lib.hid (uvalues_any a n cp W)
  obtain ⟨s, hs⟩ : ∃ s, l.mergeSort (fun x y => decide (x ≤ y)) = s := ⟨_, rfl⟩
  have hsl : s.length = l.length := by rw [← hs, List.length_mergeSort]
  rw [hs] at HSO
  have hcl := compactP_le s
  have hidx : idxOf l = match compactP s with
    | [] => []
    | x :: t => if x = 0 then t else x :: t := by unfold idxOf; rw [hs]
  obtain ⟨m, hm⟩ : ∃ m, compactP s = m := ⟨_, rfl⟩
  rw [hm] at hcl hidx
  have hml : m.length ≤ 1000 := by omega
  have HSL := Lib.hid hsl
  have HM := Lib.hid hm
  rw [hidx]
  clear hso hidx hs hrb hcl0 hv hsl hm hcl
  go_enter Tryz.func30, Tryz.ntmps30
  go_wp2_with fail
  refine (HV _ _ _ _).out.mono ?_
  rintro e w1 ⟨rfl, rfl⟩
  go_wp2_with fail
  refine HSO.out.mono ?_
  rintro e w2 ⟨v2, rfl, hown2, hn2⟩
  have HC := Lib.hid (ucompact_any _ _ _ _ hown2 (by have := HSL.out; omega))
  have hn2' := hn1.trans hn2
  obtain ⟨A2, n2, c2, rfl⟩ := own_shape hown2
  have HOB := Lib.hid (fun b hb => (hown2.block (b := b) hb).1)
  go_wp2_with fail
  refine HC.out.mono ?_
  rintro e w3 ⟨o, rfl, hown3, hf3, ho3⟩
  rw [HM.out] at hown3
  have hn3 : New w w3 := New.two hn2' hf3 (fun b hb => Nat.le_trans (by simp) (HOB.out b hb))
  have hown4 : Go.Proofs.YtdbbchifkjhfcaaGreat.Own (intE .u32) 26 w.heap.size w3 o m := hown3.mono (by simp)
  clear hown3 hf3 ho3 hown2 HOB
  have hrow := URow.of_own hown4
  cases m with
  | nil =>
    obtain ⟨A3, c3, rfl, _⟩ := hown4.form
    have HR := Lib.hid hrow
    clear hown4 hrow
    go_wp2
    go_ret
    exact ⟨_, rfl, hn3.size, _, Blk.new _ _ _, HR.out.new ((New.refl _).alloc _), HR.out.notNew, hn3.alloc _⟩
  | cons x t =>
    obtain ⟨A3, c3, rfl, hc3⟩ := hown4.form
    obtain ⟨g, rfl⟩ := hown4.some1 (by simp)
    have hc0 : w3.cell? ⟨g, 0, none⟩ = some (.int .u32 x) := hown4.icell (k := 0) rfl
    have hlen : (((x :: t).length : Nat) : Int) = (t.length : Int) + 1 := by simp
    have HR := Lib.hid hrow
    by_cases hx : x = 0
    · subst hx
      have ht := URow.tail hrow
      rw [Nat.zero_add, show (0 :: t).length - 1 = t.length by simp] at ht
      have HT := Lib.hid ht
      have hT0 : c3 = 1 → Go.Proofs.YtdbbchifkjhfcaaGreat.URow w.heap.size w3 (.slice (some ⟨g, 0, none⟩) t.length 0) t := fun h1 => by
        obtain rfl : t = [] := List.eq_nil_of_length_eq_zero (by simp at hc3; omega)
        have hb := hrow.block (b := g) rfl
        exact .inr ⟨g, 0, 0, rfl, hb.1, hrow.heap (b := g) rfl, Nat.le_refl _, Nat.zero_le _, fun i x hx => by simp at hx, fun j hj => by omega⟩
      have HT0 := Lib.hid hT0
      simp only [List.length_cons] at *
      clear hown4 hrow ht hT0
      go_wp2
      all_goals go_ret
      all_goals first
        | exact ⟨_, rfl, hn3.size, _, Blk.new _ _ _, HT.out.new ((New.refl _).alloc _), HT.out.notNew, hn3.alloc _⟩
        | exact ⟨_, rfl, hn3.size, _, Blk.new _ _ _, (HT0.out (by first | assumption | omega)).new ((New.refl _).alloc _), (HT0.out (by first | assumption | omega)).notNew, hn3.alloc _⟩
    · have hx0 : (x == 0) = false := by simp [hx]
      clear hown4 hrow
      simp only [List.length_cons] at *
      go_wp2
      go_ret
      have hR := HR.out
      first
        | exact ⟨_, rfl, hn3.size, _, Blk.new _ _ _, hR.new ((New.refl _).alloc _), hR.notNew, hn3.alloc _⟩
        | (rw [if_neg hx]; exact ⟨_, rfl, hn3.size, _, Blk.new _ _ _, hR.new ((New.refl _).alloc _), hR.notNew, hn3.alloc _⟩)

end Go.Proofs.YtdbbchifkjhfcaaGreat
end

section
/- Strictly ascending lists of integers: search, removal, the index's list. Plain lemmas; of no program. -/
namespace Go.Proofs.YtdbbchifkjhfcaaGreat
open Go.RowKit

theorem compactP_mem (l : List Int) (x : Int) : x ∈ compactP l ↔ x ∈ l := by
  induction l with
  | nil => simp [compactP]
  | cons y l ih =>
    unfold compactP
    cases l with
    | nil => simp [compactP]
    | cons z l =>
      by_cases h : y = z
      · subst h
        simp only [List.head?_cons, if_true]
        rw [ih]
        simp
      · simp only [List.head?_cons, Option.some.injEq, Ne.symm h, if_false, List.mem_cons] at ih ⊢
        rw [ih]

theorem compactP_head (l : List Int) : (compactP l).head? = l.head? := by
  induction l with
  | nil => rfl
  | cons y l ih =>
    unfold compactP
    split
    · rename_i h
      rw [ih, h]; rfl
    · rfl

theorem compactP_asc (l : List Int) (h : l.Pairwise (· ≤ ·)) : Asc (compactP l) := by
  induction l with
  | nil => exact Asc.nil
  | cons y l ih =>
    have h1 := (List.pairwise_cons.1 h).1
    have h2 := ih (List.pairwise_cons.1 h).2
    unfold compactP
    split
    · exact h2
    · rename_i hne
      refine List.pairwise_cons.2 ⟨fun z hz => ?_, h2⟩
      have hzl := (compactP_mem l z).1 hz
      have hle := h1 z hzl
      rcases Int.lt_or_le y z with hlt | hge
      · exact hlt
      · exfalso
        obtain rfl : z = y := by omega
        cases l with
        | nil => simp at hzl
        | cons u l =>
          have hu := h1 u (by simp)
          have hul : u ≤ z := by
            rcases List.mem_cons.1 hzl with h3 | h3
            · omega
            · exact (List.pairwise_cons.1 (List.pairwise_cons.1 h).2).1 z h3
          exact hne (by simp; omega)

theorem idxOf_asc (l : List Int) (h0 : ∀ x ∈ l, 0 ≤ x) : AscOf l (idxOf l) := by
  have hs : (l.mergeSort fun x y => decide (x ≤ y)).Pairwise (· ≤ ·) := by
    have := List.pairwise_mergeSort (le := fun x y : Int => decide (x ≤ y)) (by intro a b c h1 h2; simp at *; omega) (by intro a b; simp; omega) l
    exact this.imp fun h => by simpa using h
  have ha := compactP_asc _ hs
  have hm : ∀ x, x ∈ compactP (l.mergeSort fun x y => decide (x ≤ y)) ↔ x ∈ l := fun x => (compactP_mem _ x).trans List.mem_mergeSort
  unfold idxOf
  cases hc : compactP (l.mergeSort fun x y => decide (x ≤ y)) with
  | nil =>
    rw [hc] at hm
    refine ⟨Asc.nil, fun x => ?_⟩
    have := hm x
    simp at this ⊢
    intro h
    exact absurd h this
  | cons y t =>
    rw [hc] at hm ha
    simp only
    split
    · rename_i hy
      subst hy
      refine ⟨ha.tail, fun x => ?_⟩
      rw [← hm x]
      constructor
      · intro hx
        have := ha.head hx
        exact ⟨by simp [hx], by omega⟩
      · rintro ⟨h1, h2⟩
        rcases List.mem_cons.1 h1 with h1 | h1
        · exact absurd h1 h2
        · exact h1
    · rename_i hy
      refine ⟨ha, fun x => ?_⟩
      rw [hm x]
      refine ⟨fun h => ⟨h, ?_⟩, fun h => h.1⟩
      rintro rfl
      rcases List.mem_cons.1 ((hm 0).2 h) with h1 | h1
      · exact hy h1.symm
      · have := ha.head h1
        have := h0 y ((hm y).1 (by simp))
        omega

/-- In an ascending list the place that is found is the first of those that are not less. -/
theorem FindAt.mem {s : List Int} (h : Asc s) {u : Int} {k : Nat} (hk : FindAt s u k) : u ∈ s ↔ s[k]? = some u := by
  obtain ⟨h1, h2, h3⟩ := hk
  constructor
  · intro hm
    obtain ⟨i, hi⟩ := List.mem_iff_getElem?.1 hm
    have hil := (List.getElem?_eq_some_iff.1 hi).1
    rcases Nat.lt_trichotomy i k with hlt | rfl | hgt
    · rcases h2 with h2 | ⟨y, hy, hyu⟩
      · omega
      · by_cases he : i = k - 1
        · subst he; rw [hi] at hy; cases hy; omega
        · have := h.get hi hy (by omega); omega
    · exact hi
    · rcases h3 with h3 | ⟨y, hy, hyu⟩
      · omega
      · have := h.get hy hi hgt; omega
  · intro hs
    exact List.mem_iff_getElem?.2 ⟨k, hs⟩
theorem FindAt.below {s : List Int} (h : Asc s) {u : Int} {k : Nat} (hk : FindAt s u k) {i : Nat} {x : Int} (hi : s[i]? = some x) : i < k ↔ x < u := by
  obtain ⟨h1, h2, h3⟩ := hk
  have hil := (List.getElem?_eq_some_iff.1 hi).1
  constructor
  · intro hlt
    rcases h2 with h2 | ⟨y, hy, hyu⟩
    · omega
    · by_cases he : i = k - 1
      · subst he; rw [hi] at hy; cases hy; omega
      · have := h.get hi hy (by omega); omega
  · intro hx
    rcases Nat.lt_or_ge i k with h4 | h4
    · exact h4
    · exfalso
      rcases h3 with h3 | ⟨y, hy, hyu⟩
      · omega
      · rcases Nat.eq_or_lt_of_le h4 with rfl | h4
        · rw [hi] at hy; cases hy; omega
        · have := h.get hy hi h4; omega

/-- The place of u in an ascending list, counted from 1; 0 if it is not there. -/
def placeOf (s : List Int) (u : Int) : Int := if u ∈ s then (s.idxOf u : Int) + 1 else 0

theorem idxOf_at {s : List Int} {u : Int} {k : Nat} (hk : s[k]? = some u) (hn : u ∉ s.take k) : s.idxOf u = k := by
  have hkl := (List.getElem?_eq_some_iff.1 hk).1
  have h1 : s = s.take k ++ u :: s.drop (k + 1) := by
    have h2 : s.drop k = u :: s.drop (k + 1) := by
      rw [List.drop_eq_getElem_cons hkl, (List.getElem?_eq_some_iff.1 hk).2]
    rw [← h2, List.take_append_drop]
  rw [h1, List.idxOf_append, if_neg hn]
  simp
  omega

theorem placeOf_at {s : List Int} (h : Asc s) {u : Int} {k : Nat} (hk : s[k]? = some u) : placeOf s u = k + 1 := by
  have hm : u ∈ s := List.mem_iff_getElem?.2 ⟨k, hk⟩
  have hn : u ∉ s.take k := by
    intro hm
    obtain ⟨i, hi⟩ := List.mem_iff_getElem?.1 hm
    have hik : i < k := by have := (List.getElem?_eq_some_iff.1 hi).1; rw [List.length_take] at this; omega
    rw [List.getElem?_take_of_lt hik] at hi
    have := h.inj hi hk
    omega
  unfold placeOf
  rw [if_pos hm, idxOf_at hk hn]
theorem placeOf_none {s : List Int} {u : Int} (h : u ∉ s) : placeOf s u = 0 := if_neg h

theorem posAt_place {s : List Int} (h : Asc s) {u : Int} {k : Nat} (hk : FindAt s u k) : (if s[k]? = some u then (k : Int) + 1 else 0) = placeOf s u := by
  by_cases hm : u ∈ s
  · have h1 := (hk.mem h).1 hm
    rw [if_pos h1, placeOf_at h h1]
  · rw [if_neg (fun h1 => hm ((hk.mem h).2 h1)), placeOf_none hm]

end Go.Proofs.YtdbbchifkjhfcaaGreat
end

section
/- An index: Append. -/
namespace Go.Proofs.YtdbbchifkjhfcaaGreat
open Go.RowKit

section
variable {P : Program} {base : Nat} {w : World} {v : Value} {l : List Int}

/-- append(v, y) where v is a row told by its cells. -/
theorem run_push_urow (t ty : TypeId) {i : TypeInfo} {bytes : Nat} (ht : P.underlying t = some (.slice 26)) (hi : P.info? 26 = some i) (hz : i.zero = some (.int .u32 0)) (hsize : i.size = 1) (hby : i.bytes = bytes) (hby2 : bytes ≤ 8)
    (h : URow base w v l) (y : Int) (g : Nat) (hg : Blk w g 26 #[.int .u32 y]) (c : Nat) (hl : l.length ≤ 1000000) (hbase : base ≤ w.heap.size) :
    ∃ v' w', (Builtin.append_ #[t, t] ty #[v, .slice (some ⟨g, 0, none⟩) 1 c]).run P w = .ok v' w' ∧ URow base w' v' (l ++ [y]) ∧ Fr (fun k => v.ownBlock = some k) w w' ∧ (∃ A n c, v' = .slice A n c) ∧ (v'.ownBlock = v.ownBlock ∨ v'.ownBlock = some w.heap.size) := by
  have hsrc : Src P i.size t (.slice (some ⟨g, 0, none⟩) 1 c) 1 [.int .u32 y] w := by
    refine Src.ofSlice w ht ⟨g, 0, none⟩ 1 c _ (by simp [hsize]) (fun j u hu => ?_) (by simp [Value.oneCell'])
    rw [Addr.add_lit, hg.cell]
    simpa using hu
  have grow : ∀ (A : Option Addr) (cp : Nat), v = .slice A l.length cp → cp < l.length + 1 → (Builtin.firstCells i.size l.length v).run P w.drew = .ok (l.map (Value.int .u32)).toArray w.drew →
      ∃ v' w', (Builtin.append_ #[t, t] ty #[v, .slice (some ⟨g, 0, none⟩) 1 c]).run P w = .ok v' w' ∧ URow base w' v' (l ++ [y]) ∧ Fr (fun k => v.ownBlock = some k) w w' ∧ (∃ A n c, v' = .slice A n c) ∧ (v'.ownBlock = v.ownBlock ∨ v'.ownBlock = some w.heap.size) := by
    rintro A cp rfl hcp hold
    have hge := grownCap_ge w (l.length + 1) cp 26
    have hle := grownCap_le_maxLen w (l.length + 1) cp 26 (by unfold maxLen; omega)
    have hrun := run_append_grow_src (P := P) w t t ty 26 i (.int .u32 0) ht hi hz A l.length cp _ hold _ 1 _ hsrc hcp (by omega) (growslice_fits hcp (by
      have h1 : (l.length + 1) * i.bytes ≤ 1000001 * 8 := Nat.mul_le_mul (by omega) (by omega)
      omega))
    have hcn : ∀ j, (w.drew.alloc (.cells ((l.map (Value.int .u32) ++ [Value.int .u32 y]).toArray ++ Builtin.zeroCells (Value.int .u32 0).cells (grownCap w (l.length + 1) cp 26 - (l.length + 1))) 26)).cell? ⟨w.heap.size, j, none⟩ = ((l.map (Value.int .u32) ++ [Value.int .u32 y]).toArray ++ Builtin.zeroCells (Value.int .u32 0).cells (grownCap w (l.length + 1) cp 26 - (l.length + 1)))[j]? := fun j => World.cell?_alloc_new w.drew _ _ j
    refine ⟨_, _, hrun, ?_, ((Fr.refl _ w).drew).alloc _, ⟨_, _, _, rfl⟩, .inr rfl⟩
    refine .inr ⟨w.heap.size, 0, _, by rw [List.length_append]; rfl, hbase, ⟨_, Blk.new w.drew _ _⟩, by rw [List.length_append]; exact hge, hle, fun j x hx => ?_, fun j hj => ⟨?_, ?_⟩⟩
    · rw [Nat.zero_add, hcn]
      rw [Array.getElem?_append_left (by
        have := (List.getElem?_eq_some_iff.1 hx).1
        simp only [List.length_append, List.length_singleton] at this
        simp
        omega), List.getElem?_toArray]
      have e1 : l.map (Value.int .u32) ++ [Value.int .u32 y] = (l ++ [y]).map (Value.int .u32) := by simp
      rw [e1, List.getElem?_map, hx]
      rfl
    · rw [Nat.zero_add, hcn]
      refine ⟨_, Array.getElem?_eq_getElem ?_⟩
      rw [Array.size_append, size_zeroCells]
      simp [Value.cells]
      omega
    · exact World.frozen?_alloc_new w.drew _ _ _
  rcases h with ⟨rfl, rfl⟩ | ⟨gb, off, cp, rfl, hb, hgl, hlc, hcm, hcells, hj⟩
  · exact grow none 0 rfl (by simp) (run_firstCells_none _ _ _ _ _)
  · by_cases hroom : l.length + 1 ≤ cp
    · obtain ⟨⟨z, hz⟩, hf⟩ := hj l.length (by omega)
      have hrun := run_append_room_src (P := P) w t t ty 26 i ht hi gb off l.length cp _ 1 _ hsrc hroom
        (fun j hj' => by
          obtain rfl : j = 0 := by simpa using hj'
          rw [hsize, Nat.mul_one, Nat.add_zero, hz]; rfl)
        (fun j hj' => by
          obtain rfl : j = 0 := by simpa using hj'
          rw [hsize, Nat.mul_one, Nat.add_zero, hf])
      rw [hsize, Nat.mul_one] at hrun
      refine ⟨_, _, hrun, ?_, ?_, ⟨_, _, _, rfl⟩, .inl rfl⟩
      · refine .inr ⟨gb, off, cp, by rw [List.length_append]; rfl, hb, by obtain ⟨cs, hgl⟩ := hgl; exact ⟨_, hgl.set_ _ _⟩, by rw [List.length_append]; exact hroom, hcm, fun j x hx => ?_, fun j hjc => ⟨?_, ?_⟩⟩
        · simp only [World.setCells]
          by_cases hjl : j = l.length
          · subst hjl
            have hxy : x = y := by simpa using hx.symm
            subst hxy
            exact World.cell?_setCell_same _ _ _ (by rw [hz] <;> rfl)
          · rw [World.cell?_setCell_other _ _ _ _ (by simp <;> omega)]
            have hjl2 : j < l.length := by have := (List.getElem?_eq_some_iff.1 hx).1; simp at this; omega
            rw [List.getElem?_append_left hjl2] at hx
            exact hcells j x hx
        · simp only [World.setCells]
          obtain ⟨⟨z', hz'⟩, _⟩ := hj j hjc
          by_cases hjl : j = l.length
          · subst hjl
            exact ⟨_, World.cell?_setCell_same _ _ _ (by rw [hz] <;> rfl)⟩
          · rw [World.cell?_setCell_other _ _ _ _ (by simp <;> omega)]
            exact ⟨z', hz'⟩
        · simp only [World.setCells, World.frozen?_setCell]
          exact (hj j hjc).2
      · simp only [World.setCells]
        exact Fr.setCell (S := fun k => Value.ownBlock (.slice (some ⟨gb, off, none⟩) l.length cp) = some k) (p := ⟨gb, off + l.length, none⟩) (Fr.refl _ w) (fun _ => rfl) _
    · refine grow (some ⟨gb, off, none⟩) cp rfl (by omega) ?_
      refine run_firstCells_some (P := P) w.drew i.size l.length ⟨gb, off, none⟩ l.length cp _ (by simp [hsize]) fun j u hu => ?_
      rw [List.getElem?_map] at hu
      obtain ⟨x, hx, rfl⟩ := Option.map_eq_some_iff.1 hu
      rw [Addr.add_lit]
      exact hcells j x hx

variable {ops : Array Oper} {rest : List Oper} {o : Oper} {a : Act} {Q : Exit → Act → World → Prop}
theorem wpList_push_urow (hgd : o.guard = none) (s x : Operand) (t : TypeId) (ho : o.op = .call { callee := .builtin .append, args := #[s, x], argTypes := #[t, t] })
    {i : TypeInfo} {bytes : Nat} (ht : P.underlying t = some (.slice 26)) (hi : P.info? 26 = some i) (hz : i.zero = some (.int .u32 0)) (hsize : i.size = 1) (hby : i.bytes = bytes) (hby2 : bytes ≤ 8)
    (h : URow base w v l) (hs : a.eval s = v) (y : Int) (g : Nat) (hg : Blk w g 26 #[.int .u32 y]) (c : Nat) (hx : a.eval x = .slice (some ⟨g, 0, none⟩) 1 c) (hl : l.length ≤ 1000000) (hbase : base ≤ w.heap.size)
    (hK : ∀ A n c w', URow base w' (.slice A n c) (l ++ [y]) → Fr (fun k => v.ownBlock = some k) w w' → Hid (Value.ownBlock (.slice A n c) = v.ownBlock ∨ Value.ownBlock (.slice A n c) = some w.heap.size) → wpList P ops Q rest (a.put o.dst (.slice A n c)) w') :
    wpList P ops Q (o :: rest) a w := by
  obtain ⟨v', w', hr, h1, h2, ⟨A, n, c, rfl⟩, h3⟩ := run_push_urow (P := P) t o.type ht hi hz hsize hby hby2 h y g hg c hl hbase
  refine wpList_plain hgd fun K' hK' => ?_
  unfold Oper.wp execOp
  simp only [ho, resolve, invoke, builtin, Sem.run_bind, Sem.run_pure, Result.andThen_ok, List.map_toArray, List.map_cons, List.map_nil, hs, hx, hr]
  exact hK' _ _ (hK A n c w' h1 h2 h3)
end

theorem findAt_ex (l : List Int) (u : Int) : ∃ k, FindAt l u k := by
  suffices h : ∀ n k, l.length - k = n → k ≤ l.length → (k = 0 ∨ ∃ y, l[k - 1]? = some y ∧ ¬ u ≤ y) → ∃ k, FindAt l u k from h _ 0 rfl (Nat.zero_le _) (.inl rfl)
  intro n
  induction n with
  | zero =>
    intro k hk hkl h1
    exact ⟨k, hkl, h1, .inl (by omega)⟩
  | succ n ih =>
    intro k hk hkl h1
    have h2 : k < l.length := by omega
    obtain ⟨y, hy⟩ : ∃ y, l[k]? = some y := ⟨_, List.getElem?_eq_getElem h2⟩
    have h3 : l.length - (k + 1) = n := by clear h1; omega
    by_cases hu : u ≤ y
    · exact ⟨k, hkl, h1, .inr ⟨y, hy, hu⟩⟩
    · exact ih (k + 1) h3 h2 (.inr ⟨y, by simpa using hy, hu⟩)

/-- What Append leaves, where find has handed back k. -/
def appOf (l : List Int) (uid : Int) (k : Nat) : List Int × Bool := if uid = 0 ∨ k < l.length then (l, false) else (l ++ [uid], true)

/-- Block x is an index whose slice is u, which reads as l. -/
def IdxU (base : Nat) (w : World) (x : Nat) (u : Value) (l : List Int) : Prop := Blk w x 115 #[u] ∧ URow base w u l ∧ u.ownBlock ≠ some x
theorem IdxU.fr {base x : Nat} {w w' : World} {u : Value} {l : List Int} {S : Nat → Prop} (h : IdxU base w x u l) (hf : Fr S w w') (h1 : ¬ S x) (h2 : ∀ b, u.ownBlock = some b → ¬ S b) : IdxU base w' x u l :=
  ⟨Fr.blk hf h.1 h1, h.2.1.fr hf h2, h.2.2⟩
theorem IdxU.new {base x : Nat} {w w' : World} {u : Value} {l : List Int} (h : IdxU base w x u l) (hf : New w w') : IdxU base w' x u l := h.fr hf id fun _ _ => id
theorem IdxU.at_ {base x : Nat} {w : World} {u : Value} {l : List Int} (h : IdxU base w x u l) : IdxAt base w x l := ⟨u, h.1, h.2.1⟩
/-- Behind Append, Remove: the index's own block and its row alone have turned. -/
abbrev IFr (x : Nat) (u : Value) (w w' : World) : Prop := Fr (fun k => k = x ∨ u.ownBlock = some k) w w'
/-- The row is the one that it was, or a new one. -/
def Stays (w : World) (u u' : Value) : Prop := u'.ownBlock = u.ownBlock ∨ ∃ b, u'.ownBlock = some b ∧ w.heap.size ≤ b

set_option maxHeartbeats 400000 in
theorem iapp_nil (u : Int) (w : World) : Calls Tryz.prog 56 #[.pointer none, .int .u32 u] w fun e w' => e = .returned (.bool false) ∧ New w w' := by
  go_enter Tryz.func56, Tryz.ntmps56
  go_wp2_with fail
  go_quiet (fail)
  go_wp2
  go_ret
  exact ⟨rfl, (New.refl w).drewN _⟩

set_option maxRecDepth 100000 in
set_option maxHeartbeats 3200000 in
theorem iapp_any {base x : Nat} {w : World} {u : Value} {l : List Int} (h : IdxU base w x u l) (hbase : base ≤ w.heap.size) (hl : l.length ≤ 100000) (uid : Int) :
    Calls Tryz.prog 56 #[.pointer (some ⟨x, 0, none⟩), .int .u32 uid] w fun e w' => ∃ (k : Nat) (u' : Value), e = .returned (.bool (appOf l uid k).2) ∧ FindAt l uid k ∧ IdxU base w' x u' (appOf l uid k).1 ∧ IFr x u w w' ∧ Stays w u u' := by
  obtain ⟨i0, hi, hz0, hz1, hz2⟩ := info_parts u32_info
  have HF := Lib.hid (fun n => find_any (h.at_.new ((New.refl w).drewN n)) hl uid)
  have H := Lib.hid h
  obtain ⟨A, c, rfl, hlc⟩ := h.2.1.form
  have c0 : w.cell? ⟨x, 0, none⟩ = some (.slice A l.length c) := h.1.cell 0
  have f0 : w.frozen? ⟨x, 0, none⟩ = false := h.1.frozen 0
  clear h
  cases hu0 : (uid == 0)
  · go_enter Tryz.func56, Tryz.ntmps56
    go_wp2_with fail
    go_region_held3 (fun w' => w'.cell? ⟨x, 0, none⟩ = some (.slice A l.length c)) (first | go_keep | assumption)
      ((first
        | (go_at_call 80
           refine (HF.out _).mono ?_
           rintro e w1 ⟨k, rfl, hk, hn1⟩
           have hn2 : New w w1 := ((New.refl w).drewN _).trans hn1
           have c1 : w1.cell? ⟨x, 0, none⟩ = some (.slice A l.length c) := Fr.cell hn2 c0 id
           have HK := Lib.hid hk
           have hkl := hk.1
           clear hk)
        | fail))
    have hU0 := Lib.hid (show uid ≠ 0 by simpa using hu0)
    by_cases hlt : k < l.length
    · have hd : decide (k < l.length) = true := decide_eq_true hlt
      have happ : appOf l uid k = (l, false) := if_pos (.inr hlt)
      have HAPP := Lib.hid happ
      clear happ
      rw [hd]
      go_wp2
      go_ret
      refine ⟨k, _, by rw [HAPP.out]; rfl, HK.out, ?_, hn2.to, .inl rfl⟩
      rw [HAPP.out]
      exact H.out.new hn2
    · have hd : decide (k < l.length) = false := decide_eq_false hlt
      have happ : appOf l uid k = (l ++ [uid], true) := if_neg (by
        rintro (h1 | h1)
        · exact hU0.out h1
        · exact hlt h1)
      have HAPP := Lib.hid happ
      have f1 : w1.frozen? ⟨x, 0, none⟩ = false := (New.blk hn2 H.out.1).frozen 0
      have hrow := Lib.hid (H.out.2.1.new (hn2.alloc (.cells #[.int .u32 uid] 26)))
      have hblk := Lib.hid (New.blk (hn2.alloc (.cells #[.int .u32 uid] 26)) H.out.1)
      have hsz := hn2.size
      have hxl := H.out.1.lt
      have HX := Lib.hid (fun (e : Value.ownBlock (.slice A l.length c) = some x) => H.out.2.2 e)
      clear happ
      rw [hd]
      go_wp2_with (at_builtin; refine wpList_push_urow rfl _ _ _ rfl Tryz.underlying27 hi hz0 hz1 hz2 (by omega) hrow.out rfl uid w1.heap.size (Blk.new _ _ _) 1 rfl (by omega) (by simp; omega) ?_; intro A2 n2 c2 w2 hr2 hf2 hs2; have b2 := Lib.hid (Fr.blk hf2 hblk.out HX.out); have c2x : w2.cell? ⟨x, 0, none⟩ = some (.slice A l.length c) := b2.out.cell 0; have f2x : w2.frozen? ⟨x, 0, none⟩ = false := b2.out.frozen 0)
      go_ret
      have hxn : Value.ownBlock (.slice A2 n2 c2) ≠ some x := fun e => by
        rcases hs2.out with h | h
        · exact HX.out (h ▸ e)
        · rw [h] at e; injection e with e; simp at e; omega
      refine ⟨k, .slice A2 n2 c2, by rw [HAPP.out]; rfl, HK.out, ?_, ?_, ?_⟩
      · rw [HAPP.out]
        refine ⟨?_, ?_, hxn⟩
        · exact b2.out.set_ 0 _
        · exact hr2.fr (Fr.setCell (S := fun k => k = x) (p := ⟨x, 0, none⟩) (Fr.refl _ w2) (fun _ => rfl) _) fun b hb e => hxn (e ▸ hb)
      · have h1 : IFr x (.slice A l.length c) w w2 := Fr.trans' (New.to (hn2.alloc _)) hf2 fun i _ h => .inr h
        exact Fr.setCell h1 (fun _ => .inl rfl) _
      · rcases hs2.out with h | h
        · exact .inl h
        · exact .inr ⟨_, h, by simp; omega⟩
  · have HU := Lib.hid (show uid = 0 by simpa using hu0)
    have hk0 : ∃ k, FindAt l uid k := findAt_ex l uid
    go_enter Tryz.func56, Tryz.ntmps56
    go_wp2_with fail
    go_quiet (fail)
    go_wp2
    go_ret
    obtain ⟨k, hk⟩ := hk0
    have happ : appOf l uid k = (l, false) := if_pos (.inl HU.out)
    exact ⟨k, _, by rw [happ]; rfl, hk, by rw [happ]; exact H.out.new ((New.refl w).drewN _), New.to ((New.refl w).drewN _), .inl rfl⟩

end Go.Proofs.YtdbbchifkjhfcaaGreat
end

