/- Squeeze returns the squeezed list in new memory. -/
import Derived.Test.YtjaapenojppnpaaSqueeze
import Derived.Maps.OwnOps
import Derived.Deep.DeepMust
namespace Go.Proofs.Ytjaapenojppnpaa
open Go.RowKit Go.Maps

/-- Of the first k events each one's key stands in the map, at the last place of this key. -/
def LastOf (l : List Ev) (k : Nat) (M : List ((Int × Int) × Value)) : Prop :=
  ∀ i e, i < k → l[i]? = some e → ∃ j : Nat, get M (e.k, e.u) = some (.int .i64 j) ∧ i ≤ j ∧ j < k ∧ ∃ e', l[j]? = some e' ∧ e'.k = e.k ∧ e'.u = e.u

theorem LastOf.step {l : List Ev} {k : Nat} {M : List ((Int × Int) × Value)} (h : LastOf l k M) {x : Ev} (hx : l[k]? = some x) : LastOf l (k + 1) (put M (x.k, x.u) (.int .i64 (k : Nat))) := by
  intro i e hi he
  by_cases hk : (e.k, e.u) = (x.k, x.u)
  · rw [hk, get_put_same]
    injection hk with h1 h2
    exact ⟨k, rfl, by omega, by omega, x, hx, h1.symm, h2.symm⟩
  · have hik : i < k := by
      rcases Nat.lt_or_ge i k with h1 | h1
      · exact h1
      · obtain rfl : i = k := by omega
        rw [hx] at he
        injection he with he
        subst he
        exact absurd rfl hk
    rw [get_put_other M _ hk]
    obtain ⟨j, h1, h2, h3, h4⟩ := h i e hik he
    exact ⟨j, h1, h2, by omega, h4⟩

/-- At the end, the place in the map tells whether there is a later change. -/
theorem LastOf.tells {l : List Ev} {M : List ((Int × Int) × Value)} (h : LastOf l l.length M) {k : Nat} {x : Ev} (hx : l[k]? = some x) (h3 : x.k = 3) :
    ∃ j : Nat, get M (x.k, x.u) = some (.int .i64 j) ∧ j < l.length ∧ ((j = k) ↔ later x (l.drop (k + 1)) = false) := by
  obtain ⟨j, h1, h2, h4, y, hy, hyk, hyu⟩ := h k x (List.getElem?_eq_some_iff.1 hx).1 hx
  refine ⟨j, h1, h4, ?_⟩
  constructor
  · rintro rfl
    cases hl : later x (l.drop (j + 1)) with
    | false => rfl
    | true =>
      obtain ⟨_, i, z, hi, hz, hz3, hzu⟩ := later_iff.1 hl
      obtain ⟨j', h5, h6, _⟩ := h i z (List.getElem?_eq_some_iff.1 hz).1 hz
      rw [hz3, hzu, ← h3, h1] at h5
      injection h5 with h5
      injection h5 with _ h5
      omega
  · intro hl
    rcases Nat.lt_or_ge k j with hk | hk
    · have : later x (l.drop (k + 1)) = true := later_iff.2 ⟨h3, j, y, by omega, hy, by rw [hyk, h3], hyu⟩
      rw [hl] at this
      cases this
    · omega

theorem put_length {α : Type} [DecidableEq α] (M : List (α × Value)) (a : α) (v : Value) : (put M a v).length ≤ M.length + 1 := by
  unfold put del
  rw [List.length_cons]
  have := List.length_filter_le (fun p : α × Value => decide (p.1 ≠ a)) M
  omega

theorem zeroInt (w : World) : (zeroValue 3).run Try.prog w = .ok (.int .i64 0) w := by kernel_rfl

set_option maxHeartbeats 3200000 in
theorem squeeze_any (v : Value) (l : List Ev) (w : World) (hv : Rd evE w v l) (hwf : ∀ x ∈ l, x.wf) (hl : l.length ≤ 100000) :
    Calls Try.prog 10 #[v] w fun e w' => ∃ o, e = .returned o ∧ Own evE 29 w.heap.size w' o (squeeze l) ∧ New w w' := by
  obtain ⟨A, c, rfl, hc, hcells⟩ := hv
  have HC := Lib.hid hcells
  have HW := Lib.hid hwf
  clear hcells hwf
  have hmm := @run_makeMap Try.prog
  obtain ⟨i0, hi, hz0, hz1, hz2⟩ := info_parts ev_info
  go_enter Try.func10, Try.ntmps10
  go_wp2
  go_loopw [12] (fun vi wr => ∃ (k : Nat) (M : List ((Int × Int) × Value)), k ≤ l.length ∧ vi = .int .i64 k ∧ HasMap evKeys wr w.heap.size M ∧ M.length ≤ k ∧ LastOf l k M ∧ New w wr) (fun vi _ => l.length - (intOf vi).toNat)
  case atStart => exact ⟨0, [], Nat.zero_le _, rfl, HasMap.made _ _, Nat.le_refl _, fun i e hi => by omega, (New.refl _).alloc _⟩
  case round =>
    obtain ⟨k, M, hk, rfl, hM, hMl, hL, hnew⟩ := hrel
    have HL := Lib.hid hL
    clear hL
    by_cases hkl : k < l.length
    · obtain ⟨x, hx⟩ : ∃ x, l[k]? = some x := ⟨_, List.getElem?_eq_getElem hkl⟩
      obtain ⟨b, off, rfl, hcell⟩ := HC.out (by rintro rfl; simp at hkl)
      have hxw := HW.out x (List.mem_of_getElem? hx)
      have c0 : wr.cell? ⟨b, off + k * 3, none⟩ = some (.int .i64 x.k) := Fr.cell hnew (hcell k _ hx 0 _ rfl) id
      have c1 : wr.cell? ⟨b, off + k * 3 + 1, none⟩ = some (.int .u32 x.u) := Fr.cell hnew (hcell k _ hx 1 _ rfl) id
      have c2 : wr.cell? ⟨b, off + k * 3 + 2, none⟩ = some (.int .u8 x.f) := Fr.cell hnew (hcell k _ hx 2 _ rfl) id
      have HX := Lib.hid hx
      have HXW := Lib.hid hxw
      clear hcell hx hxw
      go_wp2_with (at_mapUpdate; refine wpList_put (E := evKeys) rfl _ _ _ 55 3 rfl Try.underlying55 (hM.alloc _) (by unfold maxLen; omega) (x.k, x.u) ⟨HXW.out.1, HXW.out.2.1⟩ (.int .i64 k) rfl rfl rfl ?_; intro w1 hM1 ho1)
      go_roundw
      case rel => exact ⟨k + 1, _, by omega, by go_num, hM1, by have := put_length M (x.k, x.u) (.int .i64 k); omega, HL.out.step HX.out, New.one (hnew.alloc _) ho1 (Nat.le_refl _)⟩
      case measure => simp [intOf]; omega
    · obtain rfl : k = l.length := by omega
      go_wp2
      obtain ⟨wo, rfl⟩ : ∃ wo : World, wo = wr := ⟨_, rfl⟩
      go_loopw [6, 27] (fun vo vi wr => ∃ (k : Nat) (o : List Ev), k ≤ l.length ∧ vi = .int .i64 k ∧ Own evE 29 w.heap.size wr vo o ∧ o.length ≤ k ∧ Hid (o ++ squeeze (l.drop k) = squeeze l) ∧ HasMap evKeys wr w.heap.size M ∧ New w wr ∧ vo.ownBlock ≠ some w.heap.size) (fun _ vi _ => l.length - (intOf vi).toNat)
      case atStart => exact ⟨0, [], Nat.zero_le _, rfl, Own.nil _ _ _ _, Nat.le_refl _, by show [] ++ squeeze (l.drop 0) = squeeze l; rfl, hM, hnew, by simp [Value.ownBlock]⟩
      case round =>
        obtain ⟨k, o, hk2, rfl, ho, hol, HS, hM2, hnew2, hne⟩ := hrel
        clear hM hnew hMl
        by_cases hkl : k < l.length
        · obtain ⟨x, hx⟩ : ∃ x, l[k]? = some x := ⟨_, List.getElem?_eq_getElem hkl⟩
          obtain ⟨b, off, rfl, hcell⟩ := HC.out (by rintro rfl; simp at hkl)
          have hxw := HW.out x (List.mem_of_getElem? hx)
          have c0 : wr.cell? ⟨b, off + k * 3, none⟩ = some (.int .i64 x.k) := Fr.cell hnew2 (hcell k _ hx 0 _ rfl) id
          have c1 : wr.cell? ⟨b, off + k * 3 + 1, none⟩ = some (.int .u32 x.u) := Fr.cell hnew2 (hcell k _ hx 1 _ rfl) id
          have c2 : wr.cell? ⟨b, off + k * 3 + 2, none⟩ = some (.int .u8 x.f) := Fr.cell hnew2 (hcell k _ hx 2 _ rfl) id
          have hsz2 := hnew2.size
          have hsd := squeeze_drop hx
          have hstep : later x (l.drop (k + 1)) = false → (o ++ [x]) ++ squeeze (l.drop (k + 1)) = squeeze l := fun h => by rw [← HS.out, hsd, h]; simp
          have hskip : later x (l.drop (k + 1)) = true → o ++ squeeze (l.drop (k + 1)) = squeeze l := fun h => by rw [← HS.out, hsd, h]; simp
          have HX := Lib.hid hx
          have HSTEP := Lib.hid hstep
          have HSKIP := Lib.hid hskip
          have HXW := Lib.hid hxw
          clear hcell hx hxw hsd hstep hskip
          obtain ⟨xk, xu, xf⟩ := x
          dsimp only at c0 c1 c2
          by_cases h3 : xk = 3
          · subst h3
            obtain ⟨j, hj1, hj2, hj3⟩ := HL.out.tells HX.out rfl
            have hrun := (hM2.alloc (.cells #[.int .i64 3, .int .u32 xu, .int .u8 xf] 29)).run_look (t := 55) Try.underlying55 (zeroInt _) (k := (3, xu)) ⟨HXW.out.1, HXW.out.2.1⟩
            rw [hj1] at hrun
            have hkv : evKeys.kv ((3 : Int), xu) = .agg #[.int .i64 3, .int .u32 xu] := rfl
            rw [hkv] at hrun
            simp only [Option.getD_some] at hrun
            have HJ := Lib.hid hj3
            clear hj1 hj3 hkv
            by_cases hjk : j = k
            · subst hjk
              go_wp2_with (at_builtin; refine wpList_push (E := evE) rfl _ _ _ rfl Try.underlying22 hi hz0 hz1 hz2 rfl ((ho.alloc _).alloc _) rfl ⟨3, xu, xf⟩ (wr.heap.size + 1) (Blk.new1 _ _ _ _) 1 rfl (by unfold maxLen; omega) (by omega) (by simp; omega) ?_; intro v2 w2 hv2 hf2 hl2)
              have hM3 : HasMap evKeys w2 w.heap.size M := ((hM2.alloc _).alloc _).fr hf2 hne
              have hne2 : v2.ownBlock ≠ some w.heap.size := by
                rcases hl2 with h | h
                · rw [h]; exact hne
                · rw [h]; have := hM2.lt; simp; omega
              have hnew3 := New.append ((hnew2.alloc _).alloc _) ((ho.alloc _).alloc _) hf2
              go_roundw
              case rel => exact ⟨j + 1, _, by omega, by go_num, hv2, by simp; omega, HSTEP.out (HJ.out.1 rfl), hM3, hnew3, hne2⟩
              case measure => simp [intOf]; omega
            · have hjb : ((j : Int) == (k : Int)) = false := by simp; omega
              have hlt : later ⟨3, xu, xf⟩ (l.drop (k + 1)) = true := by
                cases hb : later ⟨3, xu, xf⟩ (l.drop (k + 1)) with
                | true => rfl
                | false => exact absurd (HJ.out.2 hb) hjk
              have HLT := Lib.hid hlt
              clear hlt
              go_wp2
              go_roundw
              case rel => exact ⟨k + 1, o, by omega, by go_num, ho.alloc _, by omega, HSKIP.out HLT.out, hM2.alloc _, hnew2.alloc _, hne⟩
              case measure => simp [intOf]; omega
          · have hb3 : (xk != 3) = true := by simp [h3]
            have hl0 : later ⟨xk, xu, xf⟩ (l.drop (k + 1)) = false := by simp [later, h3]
            have HL0 := Lib.hid hl0
            clear hl0
            go_wp2_with (at_builtin; refine wpList_push (E := evE) rfl _ _ _ rfl Try.underlying22 hi hz0 hz1 hz2 rfl ((ho.alloc _).alloc _) rfl ⟨xk, xu, xf⟩ (wr.heap.size + 1) (Blk.new1 _ _ _ _) 1 rfl (by unfold maxLen; omega) (by omega) (by simp; omega) ?_; intro v2 w2 hv2 hf2 hl2)
            have hM3 : HasMap evKeys w2 w.heap.size M := ((hM2.alloc _).alloc _).fr hf2 hne
            have hne2 : v2.ownBlock ≠ some w.heap.size := by
              rcases hl2 with h | h
              · rw [h]; exact hne
              · rw [h]; have := hM2.lt; simp; omega
            have hnew3 := New.append ((hnew2.alloc _).alloc _) ((ho.alloc _).alloc _) hf2
            go_roundw
            case rel => exact ⟨k + 1, _, by omega, by go_num, hv2, by simp; omega, HSTEP.out HL0.out, hM3, hnew3, hne2⟩
            case measure => simp [intOf]; omega
        · go_wp2
          go_ret
          obtain rfl : k = l.length := by omega
          have he := HS.out
          rw [List.drop_length, squeeze, List.append_nil] at he
          subst he
          exact ⟨_, rfl, ho, hnew2⟩

end Go.Proofs.Ytjaapenojppnpaa
