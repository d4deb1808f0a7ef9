/- The reference of chapter 15: Push, Flush and Has. -/
import Derived.Test.YtjaapenojppnpaaRef15
namespace Go.Proofs.Ytjaapenojppnpaa
open Go.RowKit

theorem filter_snoc {α : Type} {l : List α} {k : Nat} {x : α} (p : α → Bool) (h : l[k]? = some x) : (l.take (k + 1)).filter p = (l.take k).filter p ++ (if p x then [x] else []) := by
  rw [take_snoc h, List.filter_append]
  cases hp : p x <;> simp [hp]

set_option maxHeartbeats 1600000 in
theorem rpush_any (v u : Value) (l m : List Ev) (w : World) (hv : Rd evE w v l) (hu : Rd evE w u m) (hl : l.length ≤ 100000) (hm : m.length ≤ 100000) :
    Calls Try.prog 17 #[v, u] w fun e w' => ∃ o, e = .returned o ∧ Own evE 29 w.heap.size w' o (l ++ m.filter fun x => decide (1 ≤ x.k ∧ x.k ≤ 3)) ∧ New w w' := by
  obtain ⟨i0, hi, hz0, hz1, hz2⟩ := info_parts ev_info
  have h0 := Own.empty evE 29 w.heap.size w (Nat.le_refl _)
  have HU := Lib.hid hu
  obtain ⟨A, c, rfl, hc, hcells⟩ := hu
  have HC := Lib.hid hcells
  clear hcells
  go_enter Try.func17, Try.ntmps17
  go_wp2_with (at_builtin; refine wpList_append (E := evE) rfl _ _ _ rfl Try.underlying22 hi hz0 hz1 hz2 rfl h0 rfl (hv.alloc _) rfl (by unfold maxLen; simp; omega) (by simp; omega) (by simp) ?_; intro v1 w1 hv1 hf1 hl1)
  have hn1 : New w w1 := New.append ((New.refl w).alloc _) h0 hf1
  rw [List.nil_append] at hv1
  clear h0 hf1 hl1
  go_loopw [5, 6] (fun vo vi wr => ∃ k : Nat, k ≤ m.length ∧ vi = .int .i64 k ∧ Own evE 29 w.heap.size wr vo (l ++ (m.take k).filter fun x => decide (1 ≤ x.k ∧ x.k ≤ 3)) ∧ New w wr) (fun _ vi _ => m.length - (intOf vi).toNat)
  case atStart => exact ⟨0, Nat.zero_le _, rfl, by simpa using hv1, hn1⟩
  case round =>
    obtain ⟨k, hk, rfl, ho, hnew⟩ := hrel
    clear hv1 hn1
    by_cases hkl : k < m.length
    · obtain ⟨x, hx⟩ : ∃ x, m[k]? = some x := ⟨_, List.getElem?_eq_getElem hkl⟩
      obtain ⟨b, off, rfl, hcell⟩ := HC.out (by rintro rfl; simp at hkl)
      have hfl : ((m.take k).filter fun x => decide (1 ≤ x.k ∧ x.k ≤ 3)).length ≤ k := Nat.le_trans (List.length_filter_le _ _) (List.length_take_le _ _)
      have hsn := filter_snoc (fun x => decide (1 ≤ x.k ∧ x.k ≤ 3)) hx
      have hsz := hnew.size
      obtain ⟨xk, xu, xf⟩ := x
      have c0 : wr.cell? ⟨b, off + k * 3, none⟩ = some (.int .i64 xk) := Fr.cell hnew (hcell k _ hx 0 _ rfl) id
      have c1 : wr.cell? ⟨b, off + k * 3 + 1, none⟩ = some (.int .u32 xu) := Fr.cell hnew (hcell k _ hx 1 _ rfl) id
      have c2 : wr.cell? ⟨b, off + k * 3 + 2, none⟩ = some (.int .u8 xf) := Fr.cell hnew (hcell k _ hx 2 _ rfl) id
      have HSN := Lib.hid hsn
      have HX := Lib.hid hx
      clear hcell hx hsn
      by_cases h1 : 1 ≤ xk
      · by_cases h3 : xk ≤ 3
        · go_wp2_with (at_builtin; refine wpList_push (E := evE) rfl _ _ _ rfl Try.underlying22 hi hz0 hz1 hz2 rfl (ho.alloc _) rfl ⟨xk, xu, xf⟩ wr.heap.size (Blk.new _ _ _) 1 rfl (by unfold maxLen; rw [List.length_append]; omega) (by rw [List.length_append]; omega) (by rw [World.size_alloc]; omega) ?_; intro v2 w2 hv2 hf2 hl2)
          have hnew3 := New.append (hnew.alloc _) (ho.alloc _) hf2
          have hs := HSN.out
          simp only [h1, h3, and_self, decide_true, if_true] at hs
          go_roundw
          case rel => exact ⟨k + 1, by omega, by go_num, by rw [hs, ← List.append_assoc]; exact hv2, hnew3⟩
          case measure => simp [intOf]; omega
        · have hs := HSN.out
          simp only [h1, h3, and_false, decide_false, Bool.false_eq_true, if_false, List.append_nil] at hs
          have HS := Lib.hid hs
          clear hs
          go_wp2
          go_roundw
          case rel => exact ⟨k + 1, by omega, by go_num, by rw [HS.out]; exact ho, hnew⟩
          case measure => simp [intOf]; omega
      · have hs := HSN.out
        simp only [h1, false_and, decide_false, Bool.false_eq_true, if_false, List.append_nil] at hs
        have HS := Lib.hid hs
        clear hs
        go_wp2
        go_roundw
        case rel => exact ⟨k + 1, by omega, by go_num, by rw [HS.out]; exact ho, hnew⟩
        case measure => simp [intOf]; omega
    · go_wp2
      go_ret
      obtain rfl : k = m.length := by omega
      rw [List.take_length] at ho
      exact ⟨_, rfl, ho, hnew⟩

set_option maxHeartbeats 1600000 in
theorem rhas_any (v : Value) (l : List Ev) (u : Int) (w : World) (hv : Rd evE w v l) (hl : l.length ≤ 100000) :
    Calls Try.prog 23 #[v, .int .u32 u] w fun e w' => e = .returned (.bool (l.any fun x => decide (x.k = 2) && decide (x.u = u))) ∧ w = w' := by
  obtain ⟨A, c, rfl, hc, hcells⟩ := hv
  have HC := Lib.hid hcells
  clear hcells
  obtain ⟨r, hr⟩ : ∃ r, r = l.any fun x => decide (x.k = 2) && decide (x.u = u) := ⟨_, rfl⟩
  rw [← hr]
  have HR := Lib.hid hr
  clear hr
  go_enter Try.func23, Try.ntmps23
  go_wp2
  go_loopw [5] (fun vi wr => ∃ k : Nat, k ≤ l.length ∧ vi = .int .i64 k ∧ Hid ((l.take k).any (fun x => decide (x.k = 2) && decide (x.u = u)) = false) ∧ w = wr) (fun vi _ => l.length - (intOf vi).toNat)
  case atStart => exact ⟨0, Nat.zero_le _, rfl, by show (l.take 0).any _ = false; simp, rfl⟩
  case round =>
    obtain ⟨k, hk, rfl, HA, rfl⟩ := hrel
    by_cases hkl : k < l.length
    · obtain ⟨x, hx⟩ : ∃ x, l[k]? = some x := ⟨_, List.getElem?_eq_getElem hkl⟩
      obtain ⟨b, off, rfl, hcell⟩ := HC.out (by rintro rfl; simp at hkl)
      have hsn := take_snoc hx
      have hmem := List.mem_of_getElem? hx
      obtain ⟨xk, xu, xf⟩ := x
      have c0 : w.cell? ⟨b, off + k * 3, none⟩ = some (.int .i64 xk) := hcell k _ hx 0 _ rfl
      have c1 : w.cell? ⟨b, off + k * 3 + 1, none⟩ = some (.int .u32 xu) := hcell k _ hx 1 _ rfl
      have HSN := Lib.hid hsn
      have HM := Lib.hid hmem
      clear hcell hx hsn hmem
      by_cases h1 : xk = 2
      · subst h1
        by_cases h2 : xu = u
        · subst h2
          have ht : (l.any fun x => decide (x.k = 2) && decide (x.u = xu)) = true := List.any_eq_true.2 ⟨_, HM.out, by simp⟩
          have hr := HR.out.trans ht
          subst hr
          clear ht
          go_wp2
          go_ret
          exact ⟨rfl, rfl⟩
        · have hb : (xu == u) = false := by simp [h2]
          go_wp2
          go_roundw
          case rel => exact ⟨k + 1, by omega, by go_num, by show (l.take (k + 1)).any _ = false; rw [HSN.out, List.any_append, HA.out]; simp [h2], trivial⟩
          case measure => simp [intOf]; omega
      · have hb : (xk == 2) = false := by simp [h1]
        go_wp2
        go_roundw
        case rel => exact ⟨k + 1, by omega, by go_num, by show (l.take (k + 1)).any _ = false; rw [HSN.out, List.any_append, HA.out]; simp [h1], trivial⟩
        case measure => simp [intOf]; omega
    · obtain rfl : k = l.length := by omega
      have ha := HA.out
      rw [List.take_length] at ha
      have hr := HR.out.trans ha
      subst hr
      clear ha HA
      go_wp2
      go_ret
      exact ⟨rfl, rfl⟩

set_option maxHeartbeats 3200000 in
theorem rflush_any (v : Value) (l : List Ev) (gone : Bool) (w : World) (hv : Rd evE w v l) (hl : l.length ≤ 100000) :
    Calls Try.prog 19 #[v, .bool gone] w fun e w' => ∃ o n, e = .returned (.tuple #[o, n]) ∧ Own evE 29 w.heap.size w' o (squeeze (l.filter fun x => gone || decide (x.k ≠ 2))) ∧
      Own evE 29 w.heap.size w' n (l.filter fun x => !(gone || decide (x.k ≠ 2))) ∧ New w w' := by
  obtain ⟨i0, hi, hz0, hz1, hz2⟩ := info_parts ev_info
  obtain ⟨A, c, rfl, hc, hcells⟩ := hv
  have HC := Lib.hid hcells
  clear hcells
  obtain ⟨p, hp⟩ : ∃ p : Ev → Bool, p = fun x => gone || decide (x.k ≠ 2) := ⟨_, rfl⟩
  obtain ⟨q, hq⟩ : ∃ q : Ev → Bool, q = fun x => !(gone || decide (x.k ≠ 2)) := ⟨_, rfl⟩
  rw [← hp, ← hq]
  have HP := Lib.hid hp
  have HQ := Lib.hid hq
  clear hp hq
  go_enter Try.func19, Try.ntmps19
  go_wp2
  go_loopw [6, 7, 8] (fun vy vn vi wr => ∃ k : Nat, k ≤ l.length ∧ vi = .int .i64 k ∧ Own evE 29 w.heap.size wr vy ((l.take k).filter p) ∧ Own evE 29 w.heap.size wr vn ((l.take k).filter q) ∧
      (vy.ownBlock = none ∨ vy.ownBlock ≠ vn.ownBlock) ∧ New w wr) (fun _ _ vi _ => l.length - (intOf vi).toNat)
  case atStart => exact ⟨0, Nat.zero_le _, rfl, Own.nil _ _ _ _, Own.nil _ _ _ _, .inl rfl, New.refl _⟩
  case round =>
    obtain ⟨k, hk, rfl, hy, hn, hyn, hnew⟩ := hrel
    by_cases hkl : k < l.length
    · obtain ⟨x, hx⟩ : ∃ x, l[k]? = some x := ⟨_, List.getElem?_eq_getElem hkl⟩
      obtain ⟨b, off, rfl, hcell⟩ := HC.out (by rintro rfl; simp at hkl)
      have hsp := filter_snoc p hx
      have hsq := filter_snoc q hx
      have hpe : p x = (gone || decide (x.k ≠ 2)) := by rw [HP.out]
      have hqe : q x = !(gone || decide (x.k ≠ 2)) := by rw [HQ.out]
      rw [hpe] at hsp
      rw [hqe] at hsq
      obtain ⟨xk, xu, xf⟩ := x
      have c0 : wr.cell? ⟨b, off + k * 3, none⟩ = some (.int .i64 xk) := Fr.cell hnew (hcell k _ hx 0 _ rfl) id
      have c1 : wr.cell? ⟨b, off + k * 3 + 1, none⟩ = some (.int .u32 xu) := Fr.cell hnew (hcell k _ hx 1 _ rfl) id
      have c2 : wr.cell? ⟨b, off + k * 3 + 2, none⟩ = some (.int .u8 xf) := Fr.cell hnew (hcell k _ hx 2 _ rfl) id
      have hsz := hnew.size
      have htl : (l.take k).length ≤ k := List.length_take_le _ _
      have hfy : ((l.take k).filter p).length ≤ k := Nat.le_trans (List.length_filter_le _ _) htl
      have hfn : ((l.take k).filter q).length ≤ k := Nat.le_trans (List.length_filter_le _ _) htl
      have hcase : (gone = true ∧ (gone || decide (xk ≠ 2)) = true) ∨ (gone = false ∧ (xk != 2) = true ∧ (gone || decide (xk ≠ 2)) = true) ∨ (gone = false ∧ (xk != 2) = false ∧ (gone || decide (xk ≠ 2)) = false) := by
        cases gone
        · by_cases h : xk = 2 <;> simp [h]
        · simp
      clear hpe hqe hcell hx
      rcases hcase with ⟨rfl, hb⟩ | ⟨rfl, hx2, hb⟩ | ⟨rfl, hx2, hb⟩
      · rw [hb] at hsp hsq
        have HSP := Lib.hid hsp
        have HSQ := Lib.hid hsq
        clear hsp hsq hb
        go_wp2_with (at_builtin; refine wpList_push (E := evE) rfl _ _ _ rfl Try.underlying22 hi hz0 hz1 hz2 rfl (hy.alloc _) rfl ⟨xk, xu, xf⟩ wr.heap.size (Blk.new _ _ _) 1 rfl (by unfold maxLen; omega) (by omega) (by simp; omega) ?_; intro v2 w2 hv2 hf2 hl2)
        have hnew3 := New.append (hnew.alloc _) (hy.alloc _) hf2
        obtain ⟨hn2, ha2⟩ := Own.apart (hn.alloc _) (hy.alloc _) (apart_symm hyn) hf2 hl2
        go_roundw
        case rel => exact ⟨k + 1, by omega, by go_num, by rw [HSP.out]; exact hv2, by rw [HSQ.out]; simpa using hn2, apart_symm ha2, hnew3⟩
        case measure => simp [intOf]; omega
      · rw [hb] at hsp hsq
        have HSP := Lib.hid hsp
        have HSQ := Lib.hid hsq
        clear hsp hsq hb
        go_wp2_with (at_builtin; refine wpList_push (E := evE) rfl _ _ _ rfl Try.underlying22 hi hz0 hz1 hz2 rfl (hy.alloc _) rfl ⟨xk, xu, xf⟩ wr.heap.size (Blk.new _ _ _) 1 rfl (by unfold maxLen; omega) (by omega) (by simp; omega) ?_; intro v2 w2 hv2 hf2 hl2)
        have hnew3 := New.append (hnew.alloc _) (hy.alloc _) hf2
        obtain ⟨hn2, ha2⟩ := Own.apart (hn.alloc _) (hy.alloc _) (apart_symm hyn) hf2 hl2
        go_roundw
        case rel => exact ⟨k + 1, by omega, by go_num, by rw [HSP.out]; exact hv2, by rw [HSQ.out]; simpa using hn2, apart_symm ha2, hnew3⟩
        case measure => simp [intOf]; omega
      · rw [hb] at hsp hsq
        have HSP := Lib.hid hsp
        have HSQ := Lib.hid hsq
        clear hsp hsq hb
        go_wp2_with (at_builtin; refine wpList_push (E := evE) rfl _ _ _ rfl Try.underlying22 hi hz0 hz1 hz2 rfl (hn.alloc _) rfl ⟨xk, xu, xf⟩ wr.heap.size (Blk.new _ _ _) 1 rfl (by unfold maxLen; omega) (by omega) (by simp; omega) ?_; intro v2 w2 hv2 hf2 hl2)
        have hnew3 := New.append (hnew.alloc _) (hn.alloc _) hf2
        obtain ⟨hy2, ha2⟩ := Own.apart (hy.alloc _) (hn.alloc _) hyn hf2 hl2
        go_roundw
        case rel => exact ⟨k + 1, by omega, by go_num, by rw [HSP.out]; simpa using hy2, by rw [HSQ.out]; exact hv2, ha2, hnew3⟩
        case measure => simp [intOf]; omega
    · obtain rfl : k = l.length := by omega
      rw [List.take_length] at hy hn
      have hfl := List.length_filter_le p l
      go_wp2_with (go_at_call 12; refine (rsqueeze_any _ _ _ hy.rd (by omega)).mono ?_; rintro e w1 ⟨o, rfl, ho, hn1⟩)
      go_ret2
      exact ⟨_, _, rfl, ho.mono hnew.size, hn.new hn1, hnew.trans hn1⟩

end Go.Proofs.Ytjaapenojppnpaa
