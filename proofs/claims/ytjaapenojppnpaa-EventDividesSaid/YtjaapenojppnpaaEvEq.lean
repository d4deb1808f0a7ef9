/- Events are equal just if their three numbers are; slices.Equal tells whether two lists of events are equal. -/
import Derived.Test.YtjaapenojppnpaaEv
import Derived.Laws.StructEq
namespace Go.Proofs.Ytjaapenojppnpaa
open Go.RowKit

theorem ev_guard : Try.prog.eqGuardType Try.prog.depth 29 = false := by kernel_rfl
theorem ev_struct : Try.prog.underlying 29 = some (.struct (Try.prog.fieldsOf 29)) := by kernel_rfl
theorem ev_stood : Try.prog.stoodInHeld 29 = false := by kernel_rfl

theorem ev_eqIn (a b c a' b' c' : Int) (w : World) :
    (Op.equalIn 10000 29 (.agg #[.int .i64 a, .int .u32 b, .int .u8 c]) (.agg #[.int .i64 a', .int .u32 b', .int .u8 c'])).run Try.prog w = .ok (decide ((⟨a, b, c⟩ : Ev) = ⟨a', b', c'⟩)) w := by
  rw [show (10000 : Nat) = 9999 + 1 from rfl, run_equalIn_agg w 9999 29 _ _ ev_struct ev_stood]
  simp only [Program.fieldsOf, Try.underlying29]
  go_simp
  by_cases h1 : a = a' <;> by_cases h2 : b = b' <;> by_cases h3 : c = c' <;> simp [h1, h2, h3]

theorem ev_neq (a b c a' b' c' : Int) (w : World) :
    (binOp .neq 29 (.agg #[.int .i64 a, .int .u32 b, .int .u8 c]) (.agg #[.int .i64 a', .int .u32 b', .int .u8 c'])).run Try.prog w = .ok (.bool (!decide ((⟨a, b, c⟩ : Ev) = ⟨a', b', c'⟩))) w := by
  rw [run_neq_struct, ev_eqIn]
  rfl
theorem ev_eql (a b c a' b' c' : Int) (w : World) :
    (binOp .eql 29 (.agg #[.int .i64 a, .int .u32 b, .int .u8 c]) (.agg #[.int .i64 a', .int .u32 b', .int .u8 c'])).run Try.prog w = .ok (.bool (decide ((⟨a, b, c⟩ : Ev) = ⟨a', b', c'⟩))) w := by
  rw [run_eql_struct, ev_eqIn]
  rfl

set_option maxHeartbeats 1600000 in
theorem equal_any (v u : Value) (l m : List Ev) (w : World) (hv : Rd evE w v l) (hu : Rd evE w u m) (hl : l.length ≤ 1000000) (hm : m.length ≤ 1000000) :
    Calls Try.prog 11 #[v, u] w fun e w' => e = .returned (.bool (decide (l = m))) ∧ New w w' := by
  obtain ⟨A, c, rfl, hc, hA⟩ := hv
  obtain ⟨B, d, rfl, hd, hB⟩ := hu
  have HA := Lib.hid hA
  have HB := Lib.hid hB
  clear hA hB
  by_cases hlm : l.length = m.length
  · generalize hq : decide (l = m) = q
    have HQ := Lib.hid hq
    have HLM := Lib.hid hlm
    rw [← hlm]
    rw [← hlm] at hm
    clear hq hlm
    have hg := ev_guard
    have hneq := ev_neq
    go_enter Try.func11, Try.ntmps11
    go_wp2
    go_loopw [13] (fun vi wr => ∃ k : Nat, k ≤ l.length ∧ vi = .int .i64 k ∧ Hid (∀ i, i < k → l[i]? = m[i]?) ∧ New w wr) (fun vi _ => l.length - (intOf vi).toNat)
    case atStart => exact ⟨0, Nat.zero_le _, rfl, fun i hi => by omega, New.refl _⟩
    case round =>
      obtain ⟨k, hk, rfl, HS, hnew⟩ := hrel
      by_cases hkl : k < l.length
      · obtain ⟨x, hx⟩ : ∃ x, l[k]? = some x := ⟨_, List.getElem?_eq_getElem hkl⟩
        obtain ⟨y, hy⟩ : ∃ y, m[k]? = some y := ⟨_, List.getElem?_eq_getElem (by have := HLM.out; omega)⟩
        obtain ⟨b, off, rfl, hcell⟩ := HA.out (by rintro rfl; simp at hkl)
        obtain ⟨b', off', rfl, hcell'⟩ := HB.out (by rintro rfl; simp at hy)
        obtain ⟨xk, xu, xf⟩ := x
        obtain ⟨yk, yu, yf⟩ := y
        have c0 : wr.cell? ⟨b, off + k * 3, none⟩ = some (.int .i64 xk) := Fr.cell hnew (hcell k _ hx 0 _ rfl) id
        have c1 : wr.cell? ⟨b, off + k * 3 + 1, none⟩ = some (.int .u32 xu) := Fr.cell hnew (hcell k _ hx 1 _ rfl) id
        have c2 : wr.cell? ⟨b, off + k * 3 + 2, none⟩ = some (.int .u8 xf) := Fr.cell hnew (hcell k _ hx 2 _ rfl) id
        have d0 : wr.cell? ⟨b', off' + k * 3, none⟩ = some (.int .i64 yk) := Fr.cell hnew (hcell' k _ hy 0 _ rfl) id
        have d1 : wr.cell? ⟨b', off' + k * 3 + 1, none⟩ = some (.int .u32 yu) := Fr.cell hnew (hcell' k _ hy 1 _ rfl) id
        have d2 : wr.cell? ⟨b', off' + k * 3 + 2, none⟩ = some (.int .u8 yf) := Fr.cell hnew (hcell' k _ hy 2 _ rfl) id
        have HX := Lib.hid hx
        have HY := Lib.hid hy
        clear hcell hcell' hx hy
        have hd := hneq xk xu xf yk yu yf
        clear hneq
        cases hxy : decide ((⟨xk, xu, xf⟩ : Ev) = ⟨yk, yu, yf⟩)
        all_goals
          rw [hxy] at hd
          have HXY := Lib.hid hxy
          clear hxy
          go_wp2_with fail
          refine wp_tail 8 (by kernel_rfl) (by kernel_rfl) ?_
          simp only [List.take_succ_cons, List.take_zero, List.drop_succ_cons, List.drop_zero]
          repeat still_step
          refine wpStill_nil ?_
          go_wp2
        · go_ret
          have hne : q = false := by
            rw [← HQ.out]
            refine decide_eq_false fun e => ?_
            have h1 := HX.out
            rw [e, HY.out] at h1
            injection h1 with h1
            have h2 := of_decide_eq_false HXY.out
            exact h2 h1.symm
          rw [hne]
          exact ⟨rfl, hnew.drew⟩
        · go_roundw
          case rel =>
            refine ⟨k + 1, by omega, by go_num, fun i hi => ?_, hnew.drew⟩
            rcases Nat.lt_or_ge i k with h | h
            · exact HS.out i h
            · obtain rfl : i = k := by omega
              rw [HX.out, HY.out, of_decide_eq_true HXY.out]
          case measure => simp [intOf]; omega
      · go_wp2
        go_ret
        have he : q = true := by
          rw [← HQ.out]
          refine decide_eq_true (List.ext_getElem? fun i => ?_)
          rcases Nat.lt_or_ge i k with h | h
          · exact HS.out i h
          · rw [List.getElem?_eq_none (by omega), List.getElem?_eq_none (by have := HLM.out; omega)]
        rw [he]
        exact ⟨rfl, hnew⟩
  · have hne : decide (l = m) = false := decide_eq_false fun e => hlm (by rw [e])
    rw [hne]
    have hb : ((l.length : Int) != (m.length : Int)) = true := by simp; omega
    clear hne hlm
    go_enter Try.func11, Try.ntmps11
    go_wp2
    go_ret
    exact ⟨rfl, New.refl _⟩

end Go.Proofs.Ytjaapenojppnpaa
