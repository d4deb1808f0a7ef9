/- slices.Compact at []uint32. -/
import Derived.Test.YtmhhmenhfocfjaaCompactP
import Derived.Test.YtmhhmenhfocfjaaMore
import Derived.WalkSpells
import Derived.WalkLawsBesides
import Derived.Deep.QuietTactic
import Derived.BigQuiet
import Derived.Lib.Hide
namespace Go.Proofs.Ytmhhmenhfocfjaa
open Go.RowKit

set_option maxRecDepth 100000 in
set_option maxHeartbeats 3200000 in
theorem ucompact_any (base : Nat) (v : Value) (l : List Int) (w : World) (hv : Own (intE .u32) 28 base w v l) (hl : l.length ≤ 100000) :
    Calls Try.prog 24 #[v] w fun e w' => ∃ o, e = .returned o ∧ Own (intE .u32) 28 base w' o (compactP l) ∧ Fr (fun k => v.ownBlock = some k) w w' ∧ (o.ownBlock = v.ownBlock) := by
  have hzero : ∀ w, (zeroValue 28).run Try.prog w = .ok (.int .u32 0) w := fun w => by kernel_rfl
  obtain ⟨A, c, rfl, hc⟩ := hv.form
  by_cases h2 : l.length < 2
  · have hid : compactP l = l := by
      match l, h2 with
      | [], _ => rfl
      | [x], _ => simp [compactP]
    rw [hid]
    clear hid
    go_enter Try.func24, Try.ntmps24
    go_wp2
    go_ret
    exact ⟨_, rfl, hv, Fr.refl _ _, rfl⟩
  · obtain ⟨gg, rfl⟩ := hv.some1 (by omega)
    have hcell : ∀ i x, l[i]? = some x → w.cell? ⟨gg, i, none⟩ = some (.int .u32 x) := fun i x hx => hv.icell hx
    have HCL := Lib.hid hcell
    obtain ⟨r, hr⟩ : ∃ r, compactP l = r := ⟨_, rfl⟩
    rw [hr]
    have HRE := Lib.hid hr
    have hd2 : decide ((l.length : Int) < 2) = false := decide_eq_false (by omega)
    clear hcell hr
    go_enter Try.func24, Try.ntmps24
    go_wp2
    go_loopw [3] (fun vi wr => ∃ k : Nat, 1 ≤ k ∧ k ≤ l.length ∧ vi = .int .i64 k ∧ Hid (compactP (l.take k) = l.take k) ∧ New w wr) (fun vi _ => l.length - (intOf vi).toNat)
    case atStart =>
      refine ⟨1, by omega, by omega, rfl, ?_, New.refl _⟩
      match l, h2 with
      | [], h => exact absurd (by simp) h
      | x :: l, _ => show compactP [x] = [x]; simp [compactP]
    case round =>
      obtain ⟨k, hk1, hk, rfl, HS, hnew⟩ := hrel
      by_cases hkl : k < l.length
      · obtain ⟨x, hx⟩ : ∃ x, l[k - 1]? = some x := ⟨_, List.getElem?_eq_getElem (by omega)⟩
        obtain ⟨y, hy⟩ : ∃ y, l[k]? = some y := ⟨_, List.getElem?_eq_getElem hkl⟩
        have e0 : wr.cell? ⟨gg, k - 1, none⟩ = some (.int .u32 x) := Fr.cell hnew (HCL.out _ x hx) id
        have e1 : wr.cell? ⟨gg, k, none⟩ = some (.int .u32 y) := Fr.cell hnew (HCL.out k y hy) id
        have hstep : compactP (l.take (k + 1)) = if x = y then l.take k else l.take k ++ [y] := by
          obtain ⟨q, rfl⟩ : ∃ q, k = q + 1 := ⟨k - 1, by omega⟩
          rw [compactP_take (by simpa using hx) hy, HS.out]
        have htk : l.take (k + 1) = l.take k ++ [y] := take_snocI hy
        have HST := Lib.hid hstep
        have HTK := Lib.hid htk
        have hwk : IntKind.i64.wrap ((k : Int) - 1) = (k : Int) - 1 := IntWalk.i64_in _ (by omega)
        have hwn : ((k : Int) - 1).toNat = k - 1 := by omega
        have hk0 : 0 ≤ (k : Int) - 1 := by omega
        clear hx hy hstep htk
        by_cases hxy : x = y
        · subst hxy
          have hst := HST.out
          rw [if_pos rfl] at hst
          have HST2 := Lib.hid hst
          clear hst
          go_wp2_with fail
          go_quiet (fail)
          go_wp2
          have hnq := hnew.drewN nq
          have hv1 := hv.new hnq
          generalize wr.drewN nq = wo at *
          go_loopw [3, 5] (fun v3 v5 wi => ∃ (kk k2 : Nat) (m : List Int), 1 ≤ k2 ∧ k + k2 ≤ l.length ∧ kk + 1 ≤ k + k2 ∧ v3 = .int .i64 kk ∧ v5 = .int .i64 k2 ∧ m.length = l.length ∧ Hid (∀ j, kk ≤ j → m[j]? = l[j]?) ∧ Hid (m.take kk = compactP (l.take (k + k2))) ∧
            Own (intE .u32) 28 base wi (.slice (some ⟨gg, 0, none⟩) l.length c) m ∧ Fr (fun q => gg = q) wo wi) (fun _ v5 _ => l.length - (intOf v5).toNat)
          case atStart => exact ⟨k, 1, l, Nat.le_refl _, by omega, Nat.le_refl _, rfl, rfl, rfl, fun _ _ => rfl, by show l.take k = compactP (l.take (k + 1)); rw [HST2.out], hv1, Fr.refl _ _⟩
          case round =>
            obtain ⟨kk, k2, m, hk21, hk2l, hkk, rfl, rfl, hm, HM, HT, ho, hf⟩ := hrel
            clear hv1 e0 e1
            by_cases hlt : k + k2 < l.length
            · obtain ⟨x', hx⟩ : ∃ x, l[k + (k2 - 1)]? = some x := ⟨_, List.getElem?_eq_getElem (by omega)⟩
              obtain ⟨y', hy⟩ : ∃ y, l[k + k2]? = some y := ⟨_, List.getElem?_eq_getElem hlt⟩
              obtain ⟨z, hz⟩ : ∃ z, m[kk]? = some z := ⟨_, List.getElem?_eq_getElem (by omega)⟩
              have e0 : wr.cell? ⟨gg, k + (k2 - 1), none⟩ = some (.int .u32 x') := ho.icell (by rw [HM.out _ (by omega)]; exact hx)
              have e1 : wr.cell? ⟨gg, k + k2, none⟩ = some (.int .u32 y') := ho.icell (by rw [HM.out _ (by omega)]; exact hy)
              have hstep : compactP (l.take (k + k2 + 1)) = if x' = y' then m.take kk else m.take kk ++ [y'] := by
                obtain ⟨q, hq⟩ : ∃ q, k + k2 = q + 1 := ⟨k + (k2 - 1), by omega⟩
                have hq2 : k + (k2 - 1) = q := by omega
                rw [hq2] at hx
                have := HT.out
                rw [hq] at hy this ⊢
                rw [compactP_take hx hy, this]
              have HST3 := Lib.hid hstep
              have hwk2 : IntKind.i64.wrap ((k2 : Int) - 1) = (k2 : Int) - 1 := IntWalk.i64_in _ (by omega)
              have hwn2 : ((k2 : Int) - 1).toNat = k2 - 1 := by omega
              have hk20 : 0 ≤ (k2 : Int) - 1 := by omega
              have hzc : ∀ n, (wr.drewN n).cell? ⟨gg, kk, none⟩ = some (.int .u32 z) := fun n => ho.icell hz
              have hzf : ∀ n, (wr.drewN n).frozen? ⟨gg, kk, none⟩ = false := fun n => ho.ifrozen _
              have HY := Lib.hid hy
              clear hx hy hz hstep
              by_cases hxy : x' = y'
              · subst hxy
                go_wp2_with fail
                go_quiet (fail)
                go_wp2
                go_roundw
                case rel =>
                  refine ⟨kk, k2 + 1, m, by omega, by omega, by omega, rfl, by go_num, hm, HM.out, ?_, ho.fr (S := fun _ => False) ((Fr.refl _ _).drewN _) (fun _ _ => id), hf.drewN _⟩
                  have hst := HST3.out
                  first | rw [if_pos rfl] at hst | rw [if_pos True.intro] at hst
                  exact hst.symm
                case measure => simp [intOf]; omega
              · have hq : (y' != x') = true := by simp; exact fun e => hxy e.symm
                go_wp2_with fail
                go_quiet (fail)
                have hst := HST3.out
                rw [if_neg hxy] at hst
                have HST4 := Lib.hid hst
                have hos := fun n => Own.istored (ho.fr (S := fun _ => False) ((Fr.refl _ wr).drewN n) (fun _ _ => id)) kk y'
                have HOS := Lib.hid hos
                have hkm : kk < m.length := by omega
                clear hst hos
                go_wp2
                go_roundw
                case rel =>
                  refine ⟨kk + 1, k2 + 1, m.set kk y', by omega, by omega, by omega, by go_num, by go_num, by rw [List.length_set]; exact hm, fun j hj => ?_, ?_, HOS.out _, ?_⟩
                  · rw [List.getElem?_set_ne (by omega)]
                    exact HM.out j (by omega)
                  · show (m.set kk y').take (kk + 1) = compactP (l.take (k + k2 + 1))
                    rw [HST4.out, take_snocI (List.getElem?_set_self hkm), List.take_set_of_le (Nat.le_refl _)]
                  · exact Fr.setCell (p := ⟨gg, _, none⟩) (hf.drewN _) (fun _ => rfl) _
                case measure => simp [intOf]; omega
            · have hkl2 : k + k2 = l.length := by omega
              have ht := HT.out
              rw [hkl2, List.take_length, HRE.out] at ht
              subst ht
              have hz1 : ∀ u ∈ (Value.int .u32 0).cells.toList, u.oneCell' = true := by
                intro u hu
                have hu2 : u ∈ [Value.int .u32 0] := hu
                rw [List.mem_singleton.1 hu2]
                rfl
              obtain ⟨w3, hr3, ho3, hf3⟩ := run_clear_own (P := Try.prog) (E := intE .u32) (ty := 0) Try.underlying22 hzero rfl hz1 ho kk (c - kk) (by omega)
              have hr3' : (Builtin.clear_ #[22] 0 #[.slice (some ⟨gg, kk, none⟩) (l.length - kk) (c - kk)]).run Try.prog wr = .ok (.tuple #[]) w3 := by
                have e1 : kk * (intE .u32).sz = kk := Nat.mul_one kk
                rw [e1] at hr3
                exact hr3
              clear hr3
              go_wp2
              go_ret
              exact ⟨_, rfl, ho3, (New.to hnq).trans (hf.trans (hf3.mono fun _ _ h => h.symm) |>.mono fun _ _ h => by rw [h]; rfl), rfl⟩
        · have hq : (y == x) = false := by simp; exact fun e => hxy e.symm
          go_wp2_with fail
          go_quiet (fail)
          go_wp2
          go_roundw
          case rel =>
            refine ⟨k + 1, by omega, by omega, by go_num, ?_, hnew.drewN _⟩
            have hst := HST.out
            rw [if_neg hxy] at hst
            show compactP (l.take (k + 1)) = l.take (k + 1)
            rw [hst, HTK.out]
          case measure => simp [intOf]; omega
      · obtain rfl : k = l.length := by omega
        have hrl : r = l := by
          rw [← HRE.out]
          have := HS.out
          rw [List.take_length] at this
          exact this
        subst hrl
        go_wp2
        go_ret
        exact ⟨_, rfl, hv.new hnew, New.to hnew, rfl⟩

end Go.Proofs.Ytmhhmenhfocfjaa
