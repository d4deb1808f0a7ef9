/- The reference of chapter 15: each function's contract. -/
import Derived.Test.YtjaapenojppnpaaSqueezeP
import Derived.Test.YtjaapenojppnpaaSplit
namespace Go.Proofs.Ytjaapenojppnpaa
open Go.RowKit

/-- An empty slice that is not nil. -/
theorem Own.empty {α : Type} (E : Elem α) (e : TypeId) (base : Nat) (w : World) (hb : base ≤ w.heap.size) : Own E e base (w.alloc (.cells #[] e)) (.slice (some ⟨w.heap.size, 0, none⟩) 0 0) [] := by
  unfold Own
  exact World.ownsRow_made w #[] 0 hb (Nat.zero_le _) (by simp)

theorem later_snoc (x y : Ev) (l : List Ev) : later x (l ++ [y]) = (later x l || (decide (x.k = 3) && (decide (y.k = 3) && decide (y.u = x.u)))) := by
  unfold later
  rw [List.any_append]
  cases decide (x.k = 3) <;> simp

set_option maxHeartbeats 3200000 in
theorem rsqueeze_any (v : Value) (l : List Ev) (w : World) (hv : Rd evE w v l) (hl : l.length ≤ 100000) :
    Calls Try.prog 12 #[v] w fun e w' => ∃ o, e = .returned o ∧ Own evE 29 w.heap.size w' o (squeeze l) ∧ New w w' := by
  obtain ⟨A, c, rfl, hc, hcells⟩ := hv
  have HC := Lib.hid hcells
  clear hcells
  obtain ⟨i0, hi, hz0, hz1, hz2⟩ := info_parts ev_info
  go_enter Try.func12, Try.ntmps12
  go_wp2
  go_loopw [3, 4] (fun vo vi wr => ∃ (k : Nat) (o : List Ev), k ≤ l.length ∧ vi = .int .i64 k ∧ Own evE 29 w.heap.size wr vo o ∧ o.length ≤ k ∧ Hid (o ++ squeeze (l.drop k) = squeeze l) ∧ New w wr) (fun _ vi _ => l.length - (intOf vi).toNat)
  case atStart => exact ⟨0, [], Nat.zero_le _, rfl, Own.nil _ _ _ _, Nat.le_refl _, by show [] ++ squeeze (l.drop 0) = squeeze l; rfl, New.refl _⟩
  case round =>
    obtain ⟨k, o, hk, rfl, ho, hol, HS, hnew⟩ := hrel
    obtain ⟨wo, rfl⟩ : ∃ wo : World, wo = wr := ⟨_, rfl⟩
    by_cases hkl : k < l.length
    · obtain ⟨x, hx⟩ : ∃ x, l[k]? = some x := ⟨_, List.getElem?_eq_getElem hkl⟩
      obtain ⟨b, off, rfl, hcell⟩ := HC.out (by rintro rfl; simp at hkl)
      have HCELL := Lib.hid hcell
      have hsd := squeeze_drop hx
      have HSD := Lib.hid hsd
      have HX := Lib.hid hx
      obtain ⟨xk, xu, xf⟩ := x
      clear hcell hx hsd
      go_wp2
      go_loopw [5, 6] (fun vq vm wr => ∃ (j : Nat) (q : Bool), k + 1 + j ≤ l.length ∧ vm = .int .i64 ((k : Int) + 1 + j) ∧ vq = .bool q ∧ Hid (q = !later ⟨xk, xu, xf⟩ ((l.drop (k + 1)).take j)) ∧ New wo wr) (fun _ vm _ => l.length - (intOf vm).toNat)
      case atStart => exact ⟨0, true, by omega, by simp, rfl, by show true = !later ⟨xk, xu, xf⟩ ((l.drop (k + 1)).take 0); simp [later], New.refl _⟩
      case round =>
        obtain ⟨j, q, hj, rfl, rfl, HQ, hnew2⟩ := hrel
        by_cases hjl : k + 1 + j < l.length
        · obtain ⟨y, hy⟩ : ∃ y, l[k + 1 + j]? = some y := ⟨_, List.getElem?_eq_getElem hjl⟩
          have hnw := hnew.trans hnew2
          have c0 : wr.cell? ⟨b, off + k * 3, none⟩ = some (.int .i64 xk) := Fr.cell hnw (HCELL.out k _ HX.out 0 _ rfl) id
          have c1 : wr.cell? ⟨b, off + k * 3 + 1, none⟩ = some (.int .u32 xu) := Fr.cell hnw (HCELL.out k _ HX.out 1 _ rfl) id
          have d0 : wr.cell? ⟨b, off + (k + 1 + j) * 3, none⟩ = some (.int .i64 y.k) := Fr.cell hnw (HCELL.out _ _ hy 0 _ rfl) id
          have d1 : wr.cell? ⟨b, off + (k + 1 + j) * 3 + 1, none⟩ = some (.int .u32 y.u) := Fr.cell hnw (HCELL.out _ _ hy 1 _ rfl) id
          have hyd : (l.drop (k + 1))[j]? = some y := by rw [List.getElem?_drop]; exact hy
          have hsn := later_snoc ⟨xk, xu, xf⟩ y ((l.drop (k + 1)).take j)
          rw [← take_snoc hyd] at hsn
          have HSN := Lib.hid hsn
          clear hsn hyd hy hnw
          obtain ⟨yk, yu, yf⟩ := y
          dsimp only at d0 d1 HSN
          by_cases hx3 : xk = 3
          · subst hx3
            by_cases hy3 : yk = 3
            · subst hy3
              by_cases hyu : yu = xu
              · subst hyu
                go_wp2_with fail
                go_quiet (fail)
                go_wp2
                go_roundw
                case rel => exact ⟨j + 1, false, by omega, by go_num, rfl, by show false = _; rw [HSN.out]; simp, hnew2.drewN _⟩
                case measure => simp [intOf]; omega
              · have hb : (yu == xu) = false := by simp [hyu]
                go_wp2_with fail
                go_quiet (fail)
                go_wp2
                go_roundw
                case rel => exact ⟨j + 1, q, by omega, by go_num, rfl, by show q = _; rw [HSN.out, HQ.out]; simp [hyu], hnew2.drewN _⟩
                case measure => simp [intOf]; omega
            · have hb : (yk == 3) = false := by simp [hy3]
              go_wp2_with fail
              go_quiet (fail)
              go_wp2
              go_roundw
              case rel => exact ⟨j + 1, q, by omega, by go_num, rfl, by show q = _; rw [HSN.out, HQ.out]; simp [hy3], hnew2.drewN _⟩
              case measure => simp [intOf]; omega
          · have hb : (xk == 3) = false := by simp [hx3]
            go_wp2_with fail
            go_quiet (fail)
            go_wp2
            go_roundw
            case rel => exact ⟨j + 1, q, by omega, by go_num, rfl, by show q = _; rw [HSN.out, HQ.out]; simp [hx3], hnew2.drewN _⟩
            case measure => simp [intOf]; omega
        · have hfull : (l.drop (k + 1)).take j = l.drop (k + 1) := by
            apply List.take_of_length_le
            rw [List.length_drop]; omega
          have hq := HQ.out
          rw [hfull] at hq
          have HQ2 := Lib.hid hq
          have hsd := HSD.out
          clear hfull HQ hq
          have hnw := hnew.trans hnew2
          have hcell := HCELL.out k _ HX.out
          have c0 : wr.cell? ⟨b, off + k * 3, none⟩ = some (.int .i64 xk) := Fr.cell hnw (hcell 0 _ rfl) id
          have c1 : wr.cell? ⟨b, off + k * 3 + 1, none⟩ = some (.int .u32 xu) := Fr.cell hnw (hcell 1 _ rfl) id
          have c2 : wr.cell? ⟨b, off + k * 3 + 2, none⟩ = some (.int .u8 xf) := Fr.cell hnw (hcell 2 _ rfl) id
          have ho2 := ho.new hnew2
          have hsz2 := hnw.size
          have hstep : q = true → (o ++ [⟨xk, xu, xf⟩]) ++ squeeze (l.drop (k + 1)) = squeeze l := fun h => by
            have hlt : later ⟨xk, xu, xf⟩ (l.drop (k + 1)) = false := by
              have h1 := HQ2.out
              rw [h] at h1
              cases hb : later ⟨xk, xu, xf⟩ (l.drop (k + 1)) with
              | false => rfl
              | true => rw [hb] at h1; cases h1
            rw [← HS.out, hsd, hlt]; simp
          have hskip : q = false → o ++ squeeze (l.drop (k + 1)) = squeeze l := fun h => by
            have hlt : later ⟨xk, xu, xf⟩ (l.drop (k + 1)) = true := by
              have h1 := HQ2.out
              rw [h] at h1
              cases hb : later ⟨xk, xu, xf⟩ (l.drop (k + 1)) with
              | true => rfl
              | false => rw [hb] at h1; cases h1
            rw [← HS.out, hsd, hlt]; simp
          have HSTEP := Lib.hid hstep
          have HSKIP := Lib.hid hskip
          clear hcell hsd hstep hskip HQ2
          cases q with
          | false =>
            go_wp2
            go_roundw
            case rel => exact ⟨k + 1, o, by omega, by go_num, ho2, by omega, HSKIP.out rfl, hnw⟩
            case measure => simp [intOf]; omega
          | true =>
            go_wp2_with (at_builtin; refine wpList_push (E := evE) rfl _ _ _ rfl Try.underlying22 hi hz0 hz1 hz2 rfl (ho2.alloc _) rfl ⟨xk, xu, xf⟩ wr.heap.size (Blk.new _ _ _) 1 rfl (by unfold maxLen; omega) (by omega) (by simp; omega) ?_; intro v2 w2 hv2 hf2 hl2)
            have hnew3 := New.append (hnw.alloc _) (ho2.alloc _) hf2
            go_roundw
            case rel => exact ⟨k + 1, _, by omega, by go_num, hv2, by simp; omega, HSTEP.out rfl, hnew3⟩
            case measure => simp [intOf]; omega
    · go_wp2
      go_ret
      obtain rfl : k = l.length := by omega
      have he := HS.out
      rw [List.drop_length, squeeze, List.append_nil] at he
      subst he
      exact ⟨_, rfl, ho, hnew⟩

end Go.Proofs.Ytjaapenojppnpaa
