/- EventLast: the walk. -/
import Derived.Test.YtjaapenojppnpaaEvAlive
namespace Go.Proofs.Ytjaapenojppnpaa
open Go.RowKit

/-- A change of message u. -/
def chg (u : Int) (x : Ev) : Bool := decide (x.k = 3) && decide (x.u = u)

theorem chg_iff {u : Int} {x : Ev} : chg u x = true ↔ x.k = 3 ∧ x.u = u := by unfold chg; simp

/-- The last change of message u, or the zero event. -/
def lastOf (u : Int) (l : List Ev) : Ev := ((l.filter (chg u)).getLast?).getD ⟨0, 0, 0⟩

theorem squeeze_chg (u : Int) (l : List Ev) : (squeeze l).filter (chg u) = (l.filter (chg u)).getLast?.toList := by
  induction l with
  | nil => rfl
  | cons e l ih =>
    rw [squeeze]
    by_cases he : chg u e = true
    · rw [List.filter_cons_of_pos he]
      obtain ⟨h3, hu⟩ := chg_iff.1 he
      split
      · rename_i h
        rw [ih]
        have h2 : later e (l.drop 0) = true := h
        obtain ⟨_, i, y, _, hy, hyk, hyu⟩ := later_iff.1 h2
        have hm : y ∈ l.filter (chg u) := List.mem_filter.2 ⟨List.mem_of_getElem? hy, chg_iff.2 ⟨hyk, by rw [hyu, hu]⟩⟩
        cases hl : l.filter (chg u) with
        | nil => rw [hl] at hm; cases hm
        | cons a m => rw [List.getLast?_cons_cons]
      · rename_i h
        have hn : l.filter (chg u) = [] := by
          rw [List.filter_eq_nil_iff]
          intro y hy hc
          obtain ⟨hyk, hyu⟩ := chg_iff.1 hc
          obtain ⟨i, hi⟩ := List.mem_iff_getElem?.1 hy
          exact h (later_iff.2 ⟨h3, i, y, Nat.zero_le _, by simpa using hi, hyk, by rw [hyu, hu]⟩ : later e (l.drop 0) = true)
        rw [List.filter_cons_of_pos he, ih, hn]
        rfl
    · rw [List.filter_cons_of_neg he]
      split
      · exact ih
      · rw [List.filter_cons_of_neg he]; exact ih

theorem lastOf_snoc {u : Int} {l : List Ev} {k : Nat} {x : Ev} (h : l[k]? = some x) : lastOf u (l.take (k + 1)) = if chg u x then x else lastOf u (l.take k) := by
  unfold lastOf
  have hk := (List.getElem?_eq_some_iff.1 h).1
  have e1 : l.take (k + 1) = l.take k ++ [x] := by rw [List.take_succ_eq_append_getElem hk, (List.getElem?_eq_some_iff.1 h).2]
  rw [e1, List.filter_append]
  cases hc : chg u x <;> simp [hc]

/-- Each change of u in the squeezed list is the last one. -/
theorem squeeze_is_last {u : Int} {l : List Ev} {x : Ev} (hx : x ∈ squeeze l) (hc : chg u x = true) : x = lastOf u l := by
  have hm : x ∈ (squeeze l).filter (chg u) := List.mem_filter.2 ⟨hx, hc⟩
  rw [squeeze_chg] at hm
  unfold lastOf
  cases h : (l.filter (chg u)).getLast? with
  | none => rw [h] at hm; cases hm
  | some y => rw [h] at hm; simp at hm; simp [hm]

/-- Their number is 1 just if there is one, and then the last one's kind is 3. -/
theorem squeeze_count (u : Int) (l : List Ev) : (((squeeze l).filter (chg u)).length : Int) = min (lastOf u l).k 1 := by
  rw [squeeze_chg]
  unfold lastOf
  cases h : (l.filter (chg u)).getLast? with
  | none => rfl
  | some y =>
    have hm : y ∈ l.filter (chg u) := List.mem_of_getLast? h
    have := (chg_iff.1 (List.mem_filter.1 hm).2).1
    simp only [Option.toList, List.length_cons, List.length_nil, Option.getD_some, this]
    rfl

theorem count_snoc {u : Int} {l : List Ev} {k : Nat} {x : Ev} (h : l[k]? = some x) : ((l.take (k + 1)).filter (chg u)).length = ((l.take k).filter (chg u)).length + (if chg u x then 1 else 0) := by
  rw [take_snoc h, List.filter_append, List.length_append]
  cases hc : chg u x <;> simp [hc]

theorem lastOf_k_nonneg (u : Int) (l : List Ev) : 0 ≤ (lastOf u l).k ∧ (lastOf u l).k ≤ 3 := by
  unfold lastOf
  cases h : (l.filter (chg u)).getLast? with
  | none => simp
  | some y =>
    have hm : y ∈ l.filter (chg u) := List.mem_of_getLast? h
    have := (chg_iff.1 (List.mem_filter.1 hm).2).1
    simp [this]

set_option maxHeartbeats 3200000 in
theorem last_any (x : Value × List Ev) (u : Int) (w : World) (h : Rd evE w x.1 x.2 ∧ ∀ y ∈ x.2, y.wf) (_h0 : 0 ≤ u) (_h1 : u ≤ 4294967295) :
    Calls Try.prog 4 #[x.1, .int .u32 u] w fun e w' => e = .returned (.bool true) ∧ New w w' := by
  obtain ⟨v, l⟩ := x
  obtain ⟨hv, hw⟩ := h
  dsimp only at hv hw ⊢
  have HV := Lib.hid hv
  have HW := Lib.hid hw
  clear hw
  obtain ⟨A, c, rfl, hc, hcells⟩ := hv
  have HC := Lib.hid hcells
  clear hcells
  rcases Nat.lt_or_ge 100 l.length with hl | hl
  · go_enter Try.func4, Try.ntmps4
    go_wp2_with fail
    refine (alive_any _).mono ?_
    rintro e w1 ⟨rfl, hn1⟩
    go_wp2
    go_ret
    exact ⟨rfl, hn1⟩
  · go_enter Try.func4, Try.ntmps4
    go_wp2
    go_loopw [18] (fun vi wr => ∃ k : Nat, k ≤ l.length ∧ vi = .int .i64 k ∧ Blk wr w.heap.size 29 #[.int .i64 (lastOf u (l.take k)).k, .int .u32 (lastOf u (l.take k)).u, .int .u8 (lastOf u (l.take k)).f] ∧ New w wr) (fun vi _ => l.length - (intOf vi).toNat)
    case atStart =>
      exact ⟨0, Nat.zero_le _, rfl, Blk.new _ _ _, (New.refl _).alloc _⟩
    case round =>
      obtain ⟨k, hk, rfl, hblk, hnew⟩ := hrel
      by_cases hkl : k < l.length
      · obtain ⟨x, hx⟩ : ∃ x, l[k]? = some x := ⟨_, List.getElem?_eq_getElem hkl⟩
        obtain ⟨b, off, rfl, hcell⟩ := HC.out (by rintro rfl; simp at hkl)
        have hsn := lastOf_snoc (u := u) hx
        obtain ⟨xk, xu, xf⟩ := x
        have c0 : wr.cell? ⟨b, off + k * 3, none⟩ = some (.int .i64 xk) := Fr.cell hnew (hcell k _ hx 0 _ rfl) id
        have c1 : wr.cell? ⟨b, off + k * 3 + 1, none⟩ = some (.int .u32 xu) := Fr.cell hnew (hcell k _ hx 1 _ rfl) id
        have c2 : wr.cell? ⟨b, off + k * 3 + 2, none⟩ = some (.int .u8 xf) := Fr.cell hnew (hcell k _ hx 2 _ rfl) id
        have HSN := Lib.hid hsn
        clear hcell hx hsn
        have hsz := hnew.size
        have hglt := hblk.lt
        have hblk1 := hblk.alloc (.cells #[.int .i64 xk, .int .u32 xu, .int .u8 xf] 29)
        have e0 : (wr.alloc (.cells #[.int .i64 xk, .int .u32 xu, .int .u8 xf] 29)).cell? ⟨w.heap.size, 0, none⟩ = some (.int .i64 (lastOf u (l.take k)).k) := hblk1.cell 0
        have f0 := hblk1.frozen 0
        have e1 : wr.cell? ⟨w.heap.size, 1, none⟩ = some (.int .u32 (lastOf u (l.take k)).u) := hblk.cell 1
        have e2 : wr.cell? ⟨w.heap.size, 2, none⟩ = some (.int .u8 (lastOf u (l.take k)).f) := hblk.cell 2
        have f1 := hblk.frozen 1
        have f2 := hblk.frozen 2
        by_cases h3 : xk = 3
        · subst h3
          by_cases hxu : xu = u
          · subst hxu
            go_wp2
            go_roundw
            case rel =>
              refine ⟨k + 1, by omega, by go_num, ?_, ?_⟩
              · rw [HSN.out]; simp only [chg, decide_true, Bool.and_self, if_true]
                exact (((hblk.set_ 0 _).set_ 1 _).set_ 2 _).alloc _
              · exact Fr.alloc (Fr.setCell (Fr.setCell (Fr.setCell hnew (fun h => by simp at h) _) (fun h => by simp at h) _) (fun h => by simp at h) _) _
            case measure => simp [intOf]; omega
          · have hb : (xu == u) = false := by simp [hxu]
            go_wp2
            go_roundw
            case rel =>
              refine ⟨k + 1, by omega, by go_num, ?_, ?_⟩
              · rw [HSN.out]; simp only [chg, hxu, decide_false, Bool.and_false, Bool.false_eq_true, if_false]; exact hblk.alloc _
              · exact hnew.alloc _
            case measure => simp [intOf]; omega
        · have hb : (xk == 3) = false := by simp [h3]
          go_wp2
          go_roundw
          case rel =>
            refine ⟨k + 1, by omega, by go_num, ?_, ?_⟩
            · rw [HSN.out]; simp only [chg, h3, decide_false, Bool.false_and, Bool.false_eq_true, if_false]; exact hblk.alloc _
            · exact hnew.alloc _
          case measure => simp [intOf]; omega
      · obtain rfl : k = l.length := by omega
        rw [List.take_length] at hblk
        have hsl := squeeze_length l
        have hlast := fun (y : Ev) (hy : y ∈ squeeze l) => squeeze_is_last (u := u) hy
        have hcount := squeeze_count u l
        have hk0 := lastOf_k_nonneg u l
        have hmem := fun (y : Ev) (hy : y ∈ squeeze l) => HW.out y (squeeze_mem hy)
        generalize hy : lastOf u l = y at *
        obtain ⟨yk, yu, yf⟩ := y
        dsimp only at hblk hcount hk0
        have HLAST := Lib.hid hlast
        have HCOUNT := Lib.hid hcount
        have HMEM := Lib.hid hmem
        clear hlast hcount hmem hy
        have hq := ev_guard
        have hneq := ev_neq
        go_wp2_with (go_at_call 10; refine (squeeze_any _ l _ (HV.out.new hnew) HW.out (by omega)).mono ?_; rintro e w1 ⟨s, rfl, hs, hn1⟩; have hblk1 := hn1.blk hblk; obtain ⟨sl, hsl2⟩ : ∃ sl, sl = squeeze l := ⟨_, rfl⟩; rw [← hsl2] at hs hsl; have HSL := Lib.hid hsl2; clear hsl2; obtain ⟨B, d, rfl, hd⟩ := hs.form)
        have hrd := hs.rd
        obtain ⟨B', d', hBd, _, hdc⟩ := hrd
        injection hBd with hB1 _ hB2
        subst hB1 hB2
        have HD := Lib.hid hdc
        clear hdc
        obtain ⟨wo, rfl⟩ : ∃ wo : World, wo = w1 := ⟨_, rfl⟩
        go_loopw [6, 36] (fun vn vi wr => ∃ k : Nat, k ≤ sl.length ∧ vi = .int .i64 k ∧ vn = .int .i64 ((sl.take k).filter (chg u)).length ∧ New wo wr) (fun _ vi _ => sl.length - (intOf vi).toNat)
        case atStart => exact ⟨0, Nat.zero_le _, rfl, rfl, New.refl _⟩
        case round =>
          obtain ⟨k, hk, rfl, rfl, hnew2⟩ := hrel
          have hcl : ((sl.take k).filter (chg u)).length ≤ k := Nat.le_trans (List.length_filter_le _ _) (List.length_take_le _ _)
          by_cases hkl : k < sl.length
          · obtain ⟨x, hx⟩ : ∃ x, sl[k]? = some x := ⟨_, List.getElem?_eq_getElem hkl⟩
            obtain ⟨b, off, rfl, hcell⟩ := HD.out (by rintro rfl; simp at hkl)
            have hsn := count_snoc (u := u) hx
            have hmx : x ∈ squeeze l := by rw [← HSL.out]; exact List.mem_of_getElem? hx
            have hlx := HLAST.out x hmx
            obtain ⟨xk, xu, xf⟩ := x
            have c0 : wr.cell? ⟨b, off + k * 3, none⟩ = some (.int .i64 xk) := Fr.cell hnew2 (hcell k _ hx 0 _ rfl) id
            have c1 : wr.cell? ⟨b, off + k * 3 + 1, none⟩ = some (.int .u32 xu) := Fr.cell hnew2 (hcell k _ hx 1 _ rfl) id
            have c2 : wr.cell? ⟨b, off + k * 3 + 2, none⟩ = some (.int .u8 xf) := Fr.cell hnew2 (hcell k _ hx 2 _ rfl) id
            have HSN := Lib.hid hsn
            have HLX := Lib.hid hlx
            clear hcell hx hsn hlx hmx
            have hblk2 := (hnew2.blk hblk1).alloc (.cells #[.int .i64 xk, .int .u32 xu, .int .u8 xf] 29)
            have e0 : (wr.alloc (.cells #[.int .i64 xk, .int .u32 xu, .int .u8 xf] 29)).cell? ⟨w.heap.size, 0, none⟩ = some (.int .i64 yk) := hblk2.cell 0
            have e1 : (wr.alloc (.cells #[.int .i64 xk, .int .u32 xu, .int .u8 xf] 29)).cell? ⟨w.heap.size, 1, none⟩ = some (.int .u32 yu) := hblk2.cell 1
            have e2 : (wr.alloc (.cells #[.int .i64 xk, .int .u32 xu, .int .u8 xf] 29)).cell? ⟨w.heap.size, 2, none⟩ = some (.int .u8 yf) := hblk2.cell 2
            by_cases h3 : xk = 3
            · by_cases hxu : xu = u
              · have hch : chg u ⟨xk, xu, xf⟩ = true := by simp [chg, h3, hxu]
                have heq := HLX.out hch
                injection heq with q1 q2 q3
                subst q1 q2 q3
                subst h3 hxu
                have hneq2 := ev_neq 3 xu xf 3 xu xf (wr.alloc (.cells #[.int .i64 3, .int .u32 xu, .int .u8 xf] 29))
                simp only [decide_true, Bool.not_true] at hneq2
                go_wp2
                go_roundw
                case rel =>
                  refine ⟨k + 1, by omega, by go_num, ?_, hnew2.alloc _⟩
                  rw [HSN.out, hch]
                  go_num
                case measure => simp [intOf]; omega
              · have hb : (xu == u) = false := by simp [hxu]
                subst h3
                go_wp2
                go_roundw
                case rel =>
                  refine ⟨k + 1, by omega, by go_num, ?_, hnew2.alloc _⟩
                  rw [HSN.out]; simp [chg, hxu]
                case measure => simp [intOf]; omega
            · have hb : (xk == 3) = false := by simp [h3]
              go_wp2
              go_roundw
              case rel =>
                refine ⟨k + 1, by omega, by go_num, ?_, hnew2.alloc _⟩
                rw [HSN.out]; simp [chg, h3]
              case measure => simp [intOf]; omega
          · obtain rfl : k = sl.length := by omega
            have hblk2 := hnew2.blk hblk1
            have hcnt : (((sl.take sl.length).filter (chg u)).length : Int) = min yk 1 := by rw [List.take_length, HSL.out]; exact HCOUNT.out
            rw [hcnt]
            go_wp2_with fail
            refine (alive_any _).mono ?_
            rintro e w3 ⟨rfl, hn3⟩
            have e0 : w3.cell? ⟨w.heap.size, 0, none⟩ = some (.int .i64 yk) := (hn3.blk hblk2).cell 0
            rcases Int.lt_or_le yk 1 with h1 | h1
            · obtain rfl : yk = 0 := by omega
              go_wp2
              go_ret
              exact ⟨rfl, ((hnew.trans hn1).trans hnew2).trans hn3⟩
            · rw [Int.min_eq_right h1]
              by_cases h2 : yk = 1
              · subst h2
                go_wp2
                go_ret
                exact ⟨rfl, ((hnew.trans hn1).trans hnew2).trans hn3⟩
              · have h3 : ¬ yk ≤ 1 := by omega
                go_wp2
                go_ret
                exact ⟨rfl, ((hnew.trans hn1).trans hnew2).trans hn3⟩

end Go.Proofs.Ytjaapenojppnpaa
