/- EventPlays: the walk. -/
import Derived.Test.YtjaapenojppnpaaEvAlive
import Derived.Test.YtjaapenojppnpaaRefQ15
import Derived.Test.YtjaapenojppnpaaOpenOps
namespace Go.Proofs.Ytjaapenojppnpaa
open Go.RowKit

set_option maxHeartbeats 1600000 in
theorem few_any (v : Value) (l : List Cmd) (w : World) (hv : Rd cmdE w v l) (hlm : l.length ≤ maxLen) : Calls Try.prog 14 #[v] w fun e w' => ∃ q, e = .returned (.bool q) ∧ (q = true → l.length ≤ 40 ∧ ∀ x ∈ l, x.l.length ≤ 30) ∧ New w w' := by
  obtain ⟨A, c, rfl, hc, hcells⟩ := hv
  have HC := Lib.hid hcells
  clear hcells
  unfold maxLen at hlm
  go_enter Try.func14, Try.ntmps14
  go_wp2
  go_loopw [7] (fun vi wr => ∃ k : Nat, k ≤ l.length ∧ vi = .int .i64 k ∧ Hid (∀ i x, i < k → l[i]? = some x → x.l.length ≤ 30) ∧ New w wr) (fun vi _ => l.length - (intOf vi).toNat)
  case atStart => exact ⟨0, Nat.zero_le _, rfl, fun i x h => by omega, New.refl _⟩
  case round =>
    obtain ⟨k, hk, rfl, HS, hnew⟩ := hrel
    by_cases hkl : k < l.length
    · obtain ⟨x, hx⟩ : ∃ x, l[k]? = some x := ⟨_, List.getElem?_eq_getElem hkl⟩
      obtain ⟨b, off, rfl, hcell⟩ := HC.out (by rintro rfl; simp at hkl)
      obtain ⟨xk, xA, xc, xl⟩ := x
      have c0 : wr.cell? ⟨b, off + k * 2, none⟩ = some (.int .i64 xk) := Fr.cell hnew (hcell k _ hx 0 _ rfl) id
      have c1 : wr.cell? ⟨b, off + k * 2 + 1, none⟩ = some (.slice xA xl.length xc) := Fr.cell hnew (hcell k _ hx 1 _ rfl) id
      have HX := Lib.hid hx
      clear hcell hx
      rcases Nat.lt_or_ge 30 xl.length with h3 | h3
      · go_wp2
        go_ret
        exact ⟨_, rfl, (fun h => by cases h), hnew.alloc _⟩
      · go_wp2
        go_roundw
        case rel =>
          refine ⟨k + 1, by omega, by go_num, fun i x hi hx => ?_, hnew.alloc _⟩
          rcases Nat.lt_or_ge i k with h | h
          · exact HS.out i x h hx
          · obtain rfl : i = k := by omega
            rw [HX.out] at hx
            injection hx with hx
            rw [← hx]
            exact h3
        case measure => simp [intOf]; omega
    · obtain rfl : k = l.length := by omega
      have hall : ∀ x ∈ l, x.l.length ≤ 30 := by
        intro x hx
        obtain ⟨i, hi⟩ := List.mem_iff_getElem?.1 hx
        exact HS.out i x (List.getElem?_eq_some_iff.1 hi).1 hi
      have HALL := Lib.hid hall
      clear hall
      rcases Nat.lt_or_ge 40 l.length with h4 | h4
      · have hd : decide ((l.length : Int) ≤ 40) = false := by simp; omega
        go_wp2
        go_ret
        exact ⟨_, rfl, (fun h => by cases h), hnew⟩
      · have hd : decide ((l.length : Int) ≤ 40) = true := by simp; omega
        go_wp2
        go_ret
        exact ⟨_, rfl, (fun _ => ⟨h4, HALL.out⟩), hnew⟩

set_option maxHeartbeats 6400000 in
theorem plays_any (x : Value × List Cmd) (u : Int) (w : World) (h : Rd cmdE w x.1 x.2 ∧ (∀ y ∈ x.2, y.ok w) ∧ x.2.length ≤ maxLen) (_h0 : 0 ≤ u) (_h1 : u ≤ 4294967295) :
    Calls Try.prog 6 #[x.1, .int .u32 u] w fun e w' => e = .returned (.bool true) ∧ New w w' := by
  obtain ⟨v, l⟩ := x
  obtain ⟨hv, hw, hlm⟩ := h
  dsimp only at hv hw hlm ⊢
  have HV := Lib.hid hv
  have HW := Lib.hid hw
  clear hw
  obtain ⟨A, c, rfl, hc, hcells⟩ := hv
  have HC := Lib.hid hcells
  clear hcells
  go_enter Try.func6, Try.ntmps6
  go_wp2_with fail
  refine (few_any _ l w HV.out hlm).mono ?_
  clear hlm
  rintro e w1 ⟨q, rfl, hq, hn1⟩
  have HQ := Lib.hid hq
  clear hq
  cases q with
  | false =>
    go_wp2_with fail
    refine (alive_any _).mono ?_
    rintro e w2 ⟨rfl, hn2⟩
    go_wp2
    go_ret
    exact ⟨rfl, hn1.trans hn2⟩
  | true =>
    obtain ⟨hl40, hl30⟩ := HQ.out rfl
    have HL := Lib.hid hl30
    clear hl30 HQ
    go_wp2_with fail
    refine (qnew_any _).mono ?_
    rintro e w2 ⟨rfl, hq2, hn2⟩
    have hs1 := hn1.size
    have hn12 := hn1.trans hn2
    go_wp2
    generalize w1.heap.size = b at *
    clear hn1 hn2
    go_loopw [6, 20] (fun vo vi wr => ∃ (k : Nat) (v : Value) (m : List Ev), k ≤ l.length ∧ vi = .int .i64 k ∧ m.length ≤ 30 * k ∧ Que wr b v m ∧ Own evE 29 w.heap.size wr vo m ∧ (∀ g, vo.ownBlock = some g → ¬ v.ownBlock = some g) ∧
      (∀ g, v.ownBlock = some g → w.heap.size ≤ g) ∧ New w wr) (fun _ vi _ => l.length - (intOf vi).toNat)
    case atStart => exact ⟨0, _, [], Nat.zero_le _, rfl, by simp, hq2, Own.nil _ _ _ _, (fun g h => by cases h), (fun g h => by cases h), hn12⟩
    case round =>
      obtain ⟨k, v, m, hk, rfl, hml, hq, ho, hd, hg, hnew⟩ := hrel
      have HD := Lib.hid hd
      have HG := Lib.hid hg
      clear hd hg hq2 hn12
      by_cases hkl : k < l.length
      · obtain ⟨x, hx⟩ : ∃ x, l[k]? = some x := ⟨_, List.getElem?_eq_getElem hkl⟩
        obtain ⟨bb, off, rfl, hcell⟩ := HC.out (by rintro rfl; simp at hkl)
        obtain ⟨_, hxr, hxw⟩ := HW.out x (List.mem_of_getElem? hx)
        have hxl := HL.out x (List.mem_of_getElem? hx)
        obtain ⟨xk, xA, xc, xl⟩ := x
        have c0 : wr.cell? ⟨bb, off + k * 2, none⟩ = some (.int .i64 xk) := Fr.cell hnew (hcell k _ hx 0 _ rfl) id
        have c1 : wr.cell? ⟨bb, off + k * 2 + 1, none⟩ = some (.slice xA xl.length xc) := Fr.cell hnew (hcell k _ hx 1 _ rfl) id
        have HX := Lib.hid hx
        have HXW := Lib.hid hxw
        have HXR := Lib.hid hxr
        dsimp only at hxl
        clear hcell hx hxw hxr
        have hnew1 := hnew.alloc (.cells #[.int .i64 xk, .slice xA xl.length xc] 41)
        have hbox : Blk (wr.alloc (.cells #[.int .i64 xk, .slice xA xl.length xc] 41)) wr.heap.size 41 #[.int .i64 xk, .slice xA xl.length xc] := Blk.new _ _ _
        have hq1 := hq.new ((New.refl wr).alloc (.cells #[.int .i64 xk, .slice xA xl.length xc] 41))
        have ho1 := ho.alloc (.cells #[.int .i64 xk, .slice xA xl.length xc] 41)
        have hsz := hnew.size
        obtain ⟨oA, oc, rfl, hoc⟩ := ho.form
        by_cases hk0 : xk = 0
        · subst hk0
          go_wp2_with fail
          refine (push_any hq1 _ xl (HXR.out.new hnew1) (by omega) (by omega) HXW.out).mono ?_
          rintro e w3 ⟨rfl, v3, hq3, hf3, hl3⟩
          have hbox3 := Fr.blk hf3 hbox (fun hs => by rcases hs with hs | hs <;> first | (have := hq.blk.lt; omega) | (have := (hq.own.block hs).2; omega))
          have e0 : w3.cell? ⟨wr.heap.size, 0, none⟩ = some (.int .i64 0) := hbox3.cell 0
          have e1 : w3.cell? ⟨wr.heap.size, 1, none⟩ = some (.slice xA xl.length xc) := hbox3.cell 1
          have ho3 := ho1.fr hf3 (fun g hg hs => by rcases hs with hs | hs <;> first | (subst hs; exact ho.blk_ne hq.blk (by decide) hg) | exact HD.out g hg hs)
          have hn3 : New w w3 := Fr.trans' hnew1 hf3 fun i hi hs => by rcases hs with hs | hs <;> first | omega | (have := HG.out i hs; omega)
          have hg3 : ∀ g, v3.ownBlock = some g → w.heap.size ≤ g := by
            intro g h
            rcases hl3 with h3 | ⟨g', h3, h4⟩
            · exact HG.out g (h3 ▸ h)
            · rw [h3] at h; injection h with h; have := hnew1.size; omega
          have HG3 := Lib.hid hg3
          have hs3 := hn3.size
          have hv3 := fun g (h : v3.ownBlock = some g) => (hq3.own.block h).2
          have HV3 := Lib.hid hv3
          clear hq1 ho1 ho hq hbox hbox3 hf3 hl3 hg3 hnew1 hv3
          have hfl := List.length_filter_le (fun x : Ev => decide (1 ≤ x.k ∧ x.k ≤ 3)) xl
          go_wp2_with fail
          refine (rpush_any _ _ m xl w3 ho3.rd (HXR.out.new hn3) (by omega) (by omega)).mono ?_
          rintro e w4 ⟨o4, rfl, ho4, hn4⟩
          have hq4 := hq3.new hn4
          have ho4' := ho4.mono hs3
          have hd4 : ∀ g, o4.ownBlock = some g → ¬ v3.ownBlock = some g := by
            intro g h1 h2
            have := (ho4.block h1).1
            have := HV3.out g h2
            omega
          have hlen4 : (m ++ List.filter (fun x => decide (1 ≤ x.k ∧ x.k ≤ 3)) xl).length ≤ 30 * (k + 1) := by rw [List.length_append]; omega
          generalize hm4 : m ++ List.filter (fun x => decide (1 ≤ x.k ∧ x.k ≤ 3)) xl = m4 at *
          obtain ⟨A4, c4, rfl, hc4⟩ := ho4'.form
          go_wp2_with fail
          refine (len_any hq4).mono ?_
          rintro e w5 ⟨rfl, rfl⟩
          go_wp2_with fail
          refine (has_any hq4 u (by omega)).mono ?_
          rintro e w5 ⟨rfl, hn5⟩
          go_wp2_with fail
          refine (rhas_any _ m4 u w5 (ho4'.new hn5).rd (by omega)).mono ?_
          have hany : (m4.any fun x => decide (x.k = 2) && decide (x.u = u)) = m4.any fun x => decide (x.k = 2 ∧ x.u = u) := by
            congr 1; funext x; simp
          rw [hany]
          rintro e w6 ⟨rfl, rfl⟩
          generalize (m4.any fun x => decide (x.k = 2 ∧ x.u = u)) = q6
          have hn36 := (hn3.trans hn4).trans hn5
          have hd4' := Lib.hid hd4
          clear hany hm4 hd4
          go_wp2
          go_roundw
          case rel => exact ⟨k + 1, v3, m4, by omega, by go_num, hlen4, hq4.new hn5, ho4'.new hn5, hd4'.out, HG3.out, hn36⟩
          case measure => simp [intOf]; omega
        · by_cases hk3 : xk = 3
          · subst hk3
            go_wp2_with fail
            refine (clear_any hq1).mono ?_
            rintro e w3 ⟨rfl, hq3, hf3⟩
            have hn3 : New w w3 := New.one hnew1 hf3 (by omega)
            go_wp2_with fail
            refine (len_any hq3).mono ?_
            rintro e w5 ⟨rfl, rfl⟩
            go_wp2_with fail
            refine (has_any hq3 u (by simp)).mono ?_
            rintro e w5 ⟨rfl, hn5⟩
            go_wp2_with fail
            refine (rhas_any _ [] u w5 (Rd.nil _ _) (by simp)).mono ?_
            rintro e w6 ⟨rfl, rfl⟩
            rw [List.any_nil]
            have hn35 := hn3.trans hn5
            go_wp2
            go_roundw
            case rel => exact ⟨k + 1, _, [], by omega, by go_num, by simp, hq3.new hn5, Own.nil _ _ _ _, (fun g h => by cases h), (fun g h => by cases h), hn35⟩
            case measure => simp [intOf]; omega
          · obtain ⟨gone, hgone⟩ : ∃ gone : Bool, (xk == 2) = gone := ⟨_, rfl⟩
            have hb0 : (xk == 0) = false := by simp [hk0]
            have hb3 : (xk == 3) = false := by simp [hk3]
            go_wp2_with fail
            refine (rflush_any _ m gone _ ho1.rd (by omega)).mono ?_
            rintro e w3 ⟨t1, t2, rfl, ht1, ht2, hn3⟩
            have hq3 := hq1.new hn3
            have hs3 := hn3.size
            have hs1' := hnew1.size
            have hbox3 := hn3.blk hbox
            have e0 : w3.cell? ⟨wr.heap.size, 0, none⟩ = some (.int .i64 xk) := hbox3.cell 0
            have e1 : w3.cell? ⟨wr.heap.size, 1, none⟩ = some (.slice xA xl.length xc) := hbox3.cell 1
            have hfl := List.length_filter_le (fun x : Ev => gone || decide (x.k ≠ 2)) m
            have hfl2 := List.length_filter_le (fun x : Ev => !(gone || decide (x.k ≠ 2))) m
            have hfl3 := squeeze_length (List.filter (fun x : Ev => gone || decide (x.k ≠ 2)) m)
            go_wp2_with fail
            refine (flush_any hq3 gone (by omega)).mono ?_
            rintro e w4 ⟨o, v4, rfl, ho4, hq4, hf4, hg4, _⟩
            generalize squeeze (List.filter (fun x : Ev => gone || decide (x.k ≠ 2)) m) = ms at *
            generalize hm4 : List.filter (fun x : Ev => !(gone || decide (x.k ≠ 2))) m = m4 at *
            have ht14 := ht1.fr hf4 (fun g h e => by subst e; exact ht1.blk_ne hq3.blk (by decide) h)
            have ht24 := ht2.fr hf4 (fun g h e => by subst e; exact ht2.blk_ne hq3.blk (by decide) h)
            have hn4 : New w w4 := New.one (hnew1.trans hn3) hf4 (by omega)
            have hd4 : ∀ g, t2.ownBlock = some g → ¬ v4.ownBlock = some g := by
              intro g h1 h2
              have := (ht2.block h1).2
              have := hg4 g h2
              omega
            have hg4' : ∀ g, v4.ownBlock = some g → w.heap.size ≤ g := by
              intro g h
              have := hg4 g h
              omega
            have HD4 := Lib.hid hd4
            have HG4 := Lib.hid hg4'
            have ht24' := ht24.mono (Nat.le_trans hs1' (Nat.le_refl _))
            clear hd4 hg4 hg4' hm4 hq1 ho1 ho hq hbox hbox3 hq3 ht1 ht2 hf4
            go_wp2_with fail
            refine (equal_any _ _ ms ms _ ho4.rd ht14.rd (by omega) (by omega)).mono ?_
            rintro e w5 ⟨rfl, hn5⟩
            rw [decide_eq_true (Eq.refl _)]
            have hq5 := hq4.new hn5
            have ht5 := ht24'.new hn5
            obtain ⟨A4, c4, rfl, hc4⟩ := ht5.form
            go_wp2_with fail
            refine (len_any hq5).mono ?_
            rintro e w6 ⟨rfl, rfl⟩
            go_wp2_with fail
            refine (has_any hq5 u (by omega)).mono ?_
            rintro e w6 ⟨rfl, hn6⟩
            go_wp2_with fail
            refine (rhas_any _ m4 u w6 (ht5.new hn6).rd (by omega)).mono ?_
            have hany : (m4.any fun x => decide (x.k = 2) && decide (x.u = u)) = m4.any fun x => decide (x.k = 2 ∧ x.u = u) := by
              congr 1; funext x; simp
            rw [hany]
            rintro e w7 ⟨rfl, rfl⟩
            generalize (m4.any fun x => decide (x.k = 2 ∧ x.u = u)) = q6
            have hn46 := (hn4.trans hn5).trans hn6
            clear hany
            go_wp2
            go_roundw
            case rel => exact ⟨k + 1, v4, m4, by omega, by go_num, by omega, hq5.new hn6, ht5.new hn6, HD4.out, HG4.out, hn46⟩
            case measure => simp [intOf]; omega
      · go_wp2_with fail
        refine (alive_any _).mono ?_
        rintro e w2 ⟨rfl, hn2⟩
        go_wp2
        go_ret
        exact ⟨rfl, hnew.trans hn2⟩

end Go.Proofs.Ytjaapenojppnpaa
