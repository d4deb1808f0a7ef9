/- EventDivides: the walk. -/
import Derived.Test.YtjaapenojppnpaaEvAlive
import Derived.Test.YtjaapenojppnpaaEvSlices
namespace Go.Proofs.Ytjaapenojppnpaa
open Go.RowKit

theorem squeeze_filter (q : Ev → Bool) (hq : ∀ x, q x = true → x.k ≠ 3) (l : List Ev) : (squeeze l).filter q = l.filter q := by
  induction l with
  | nil => rfl
  | cons e l ih =>
    rw [squeeze]
    split
    · rename_i h
      have h3 : e.k = 3 := (later_iff.1 (show later e (l.drop 0) = true from h)).1
      have hf : q e ≠ true := fun h => hq e h h3
      rw [ih, List.filter_cons_of_neg hf]
    · rw [List.filter_cons, List.filter_cons, ih]

def first (l : List Ev) : List Ev := squeeze ((l.filter fun x => decide (1 ≤ x.k ∧ x.k ≤ 3)).filter fun x => false || decide (x.k ≠ 2))
def second (l : List Ev) : List Ev := squeeze (((l.filter fun x => decide (1 ≤ x.k ∧ x.k ≤ 3)).filter fun x => !(false || decide (x.k ≠ 2))).filter fun x => true || decide (x.k ≠ 2))

theorem divides (l : List Ev) (k : Int) (hk : k = 1 ∨ k = 2) : ((first l ++ second l).filter fun x => !(x.k != k)) = l.filter fun x => !(x.k != k) := by
  have hq : ∀ x : Ev, (!(x.k != k)) = true → x.k ≠ 3 := by
    intro x h h3
    simp at h
    omega
  unfold first second
  rw [List.filter_append, squeeze_filter _ hq, squeeze_filter _ hq]
  simp only [List.filter_filter]
  rcases hk with rfl | rfl
  · have h2 : (l.filter fun a => (!(a.k != 1)) && ((true || decide (a.k ≠ 2)) && ((!(false || decide (a.k ≠ 2))) && decide (1 ≤ a.k ∧ a.k ≤ 3)))) = [] := by
      rw [List.filter_eq_nil_iff]
      intro x _ h
      simp at h
      omega
    rw [h2, List.append_nil]
    refine List.filter_congr fun x _ => ?_
    by_cases h : x.k = 1 <;> simp [h]
  · have h2 : (l.filter fun a => (!(a.k != 2)) && ((false || decide (a.k ≠ 2)) && decide (1 ≤ a.k ∧ a.k ≤ 3))) = [] := by
      rw [List.filter_eq_nil_iff]
      intro x _ h
      simp at h
      omega
    rw [h2, List.nil_append]
    refine List.filter_congr fun x _ => ?_
    by_cases h : x.k = 2 <;> simp [h]

theorem first_no2 (l : List Ev) : ((first l).any fun x => x.k == 2) = false := by
  rw [List.any_eq_false]
  intro x hx h
  have := squeeze_mem hx
  have := (List.mem_filter.1 this).2
  simp at this h
  exact this h

theorem first_len (l : List Ev) : (first l).length ≤ l.length := Nat.le_trans (squeeze_length _) (Nat.le_trans (List.length_filter_le _ _) (List.length_filter_le _ _))
theorem second_len (l : List Ev) : (second l).length ≤ l.length := Nat.le_trans (squeeze_length _) (Nat.le_trans (List.length_filter_le _ _) (Nat.le_trans (List.length_filter_le _ _) (List.length_filter_le _ _)))

set_option maxHeartbeats 400000 in
theorem law1_pred (w : World) (g : Nat) (k : Int) (hg : Blk w g 3 #[.int .i64 k]) : IsPred w 24 #[.pointer (some ⟨g, 0, none⟩)] (fun x => x.k != k) := by
  intro W x hn
  have hc : W.cell? ⟨g, 0, none⟩ = some (.int .i64 k) := (hn.blk hg).cell 0
  have hlt := (hn.blk hg).lt
  have hc1 : ∀ o, (W.alloc o).cell? ⟨g, 0, none⟩ = some (.int .i64 k) := fun o => (Blk.alloc (hn.blk hg) o).cell 0
  obtain ⟨xk, u, f⟩ := x
  show Calls Try.prog 24 #[(Ev.val ⟨xk, u, f⟩), .pointer (some ⟨g, 0, none⟩)] W _
  unfold Ev.val
  dsimp only
  go_enter Try.func24, Try.ntmps24
  go_wp2
  go_ret
  exact ⟨rfl, (New.refl _).alloc _⟩

set_option maxHeartbeats 400000 in
theorem law2_pred (w : World) : IsPred w 29 #[] (fun x => x.k == 2) := by
  intro W x hn
  obtain ⟨xk, u, f⟩ := x
  show Calls Try.prog 29 #[(Ev.val ⟨xk, u, f⟩)] W _
  unfold Ev.val
  dsimp only
  go_enter Try.func29, Try.ntmps29
  go_wp2
  go_ret
  exact ⟨rfl, (New.refl _).alloc _⟩

set_option maxHeartbeats 6400000 in
theorem divides_any (x : Value × List Ev) (w : World) (h : Rd evE w x.1 x.2 ∧ ∀ y ∈ x.2, y.wf) :
    Calls Try.prog 8 #[x.1] w fun e w' => e = .returned (.bool true) ∧ New w w' := by
  obtain ⟨v, l⟩ := x
  obtain ⟨hv, hw⟩ := h
  dsimp only at hv hw ⊢
  have hmf : ∀ (fn : Fn) (first cap : Array Value) (w : World), (Instr.makeFunc fn first cap).run Try.prog w = .ok (.func fn first cap) w := fun _ _ _ _ => rfl
  have HV := Lib.hid hv
  have HW := Lib.hid hw
  clear hw
  obtain ⟨A, c, rfl, hc, hcells⟩ := hv
  clear hcells
  rcases Nat.lt_or_ge 100 l.length with hl | hl
  · go_enter Try.func8, Try.ntmps8
    go_wp2_with fail
    refine (alive_any _).mono ?_
    rintro e w1 ⟨rfl, hn1⟩
    go_wp2
    go_ret
    exact ⟨rfl, hn1⟩
  · go_enter Try.func8, Try.ntmps8
    go_wp2_with fail
    refine (qnew_any _).mono ?_
    rintro e w1 ⟨rfl, hq1, hn1⟩
    go_wp2_with fail
    refine (push_any hq1 _ l (HV.out.new hn1) (by omega) (by simp) HW.out).mono ?_
    rintro e w2 ⟨rfl, v2, hq2, hf2, hl2⟩
    have hn2 : New w w2 := Fr.trans' hn1 hf2 fun i hi hs => by rcases hs with rfl | hs <;> first | omega | cases hs
    have hfl := List.length_filter_le (fun x : Ev => decide (1 ≤ x.k ∧ x.k ≤ 3)) l
    rw [List.nil_append] at hq2
    clear hq1 hl2 hf2 hn1
    go_wp2_with fail
    refine (flush_any hq2 false (by omega)).mono ?_
    rintro e w3 ⟨oa, v3, rfl, ha, hq3, hf3, _, _⟩
    have hn3 : New w w3 := New.one hn2 hf3 (Nat.le_refl _)
    have hfl2 := List.length_filter_le (fun x : Ev => !(false || decide (x.k ≠ 2))) (l.filter fun x => decide (1 ≤ x.k ∧ x.k ≤ 3))
    go_wp2_with fail
    refine (flush_any hq3 true (by omega)).mono ?_
    rintro e w4 ⟨ob, v4, rfl, hb, hq4, hf4, _, _⟩
    have ha4 := ha.fr hf4 (fun g h e => by subst e; exact ha.blk_ne hq3.blk (by decide) h)
    have hn4 : New w w4 := New.one hn3 hf4 (Nat.le_refl _)
    have hq4e : (List.filter (fun x : Ev => !(true || decide (x.k ≠ 2))) (List.filter (fun x => !(false || decide (x.k ≠ 2))) (List.filter (fun x => decide (1 ≤ x.k ∧ x.k ≤ 3)) l))) = [] := by
      rw [List.filter_eq_nil_iff]; intro x _; simp
    rw [hq4e] at hq4
    have ha5 : Own evE 29 w2.heap.size w4 oa (first l) := ha4
    have hb5 : Own evE 29 w3.heap.size w4 ob (second l) := hb
    have hlen1 := first_len l
    have hlen2 := second_len l
    clear ha ha4 hb hf3 hf4 hq3 hq2 hq4e hn2 hn3
    obtain ⟨aA, ac, rfl, _⟩ := ha5.form
    obtain ⟨bA, bc, rfl, _⟩ := hb5.form
    have hblk : Blk (w4.alloc (.cells #[.int .i64 1, .int .i64 2] 3)) w4.heap.size 3 #[.int .i64 1, .int .i64 2] := Blk.new _ _ _
    go_wp2
    obtain ⟨wo, hwo⟩ : ∃ wo : World, wo = w4.alloc (.cells #[.int .i64 1, .int .i64 2] 3) := ⟨_, rfl⟩
    rw [← hwo] at hblk ⊢
    have hno : New w4 wo := by rw [hwo]; exact (New.refl _).alloc _
    clear hwo
    go_loopw [26] (fun vi wr => ∃ k : Nat, k ≤ 2 ∧ vi = .int .i64 k ∧ New wo wr) (fun vi _ => 2 - (intOf vi).toNat)
    case atStart => exact ⟨0, by omega, rfl, New.refl _⟩
    case round =>
      obtain ⟨k, hk, rfl, hnew⟩ := hrel
      have hblk2 := hnew.blk hblk
      by_cases hk2 : k < 2
      · have hel : wr.cell? ⟨w4.heap.size, k, none⟩ = some (.int .i64 (k + 1)) := by
          rcases (by omega : k = 0 ∨ k = 1) with rfl | rfl
          · exact hblk2.cell 0
          · exact hblk2.cell 1
        have hkk : ((k : Int) + 1 = 1 ∨ (k : Int) + 1 = 2) := by omega
        have hdiv := divides l ((k : Int) + 1) hkk
        generalize hkg : (k : Int) + 1 = kk at hel hdiv
        have HDIV := Lib.hid hdiv
        have HKG := Lib.hid hkg
        clear hkk hkg hdiv
        have hbox : Blk (wr.alloc (.cells #[.int .i64 kk] 3)) wr.heap.size 3 #[.int .i64 kk] := Blk.new _ _ _
        obtain ⟨wb, hwb⟩ : ∃ wb : World, wb = wr.alloc (.cells #[.int .i64 kk] 3) := ⟨_, rfl⟩
        have hnb : New wr wb := by rw [hwb]; exact (New.refl _).alloc _
        have hpred := law1_pred wb wr.heap.size kk (by rw [hwb]; exact hbox)
        have HPRED := Lib.hid hpred
        clear hpred hbox
        have hn0 := (hn4.trans hno).trans (hnew.trans hnb)
        go_wp2_with fail
        rw [← hwb]
        refine (clone_any _ l wb (HV.out.new hn0) (by omega)).mono ?_
        rintro e w5 ⟨o5, rfl, ho5, hn5⟩
        go_wp2_with fail
        refine (deleteFunc_any 24 #[.pointer (some ⟨wr.heap.size, 0, none⟩)] _ (enters _ _ _ Try.func24 (by kernel_rfl) rfl) _ l wb w5 HPRED.out hn5 ho5 (by omega)).mono ?_
        rintro e w6 ⟨o6, rfl, ho6, hf6⟩
        have hn6 : New wb w6 := Fr.trans' hn5 hf6 fun i hi hs => by have := (ho5.block hs).1; omega
        have hnn6 := (hno.trans (hnew.trans hnb)).trans hn6
        have ha6 := ha5.new hnn6
        have hb6 := hb5.new hnn6
        have hab : Blk (w6.alloc (.cells #[.slice aA (first l).length ac, .slice bA (second l).length bc] 22)) w6.heap.size 22 #[.slice aA (first l).length ac, .slice bA (second l).length bc] := Blk.new _ _ _
        have hlt6 := fun g (h : o6.ownBlock = some g) => (ho6.block h).2
        have HLT6 := Lib.hid hlt6
        clear hlt6 ho5 hf6
        go_wp2_with fail
        refine (concat_any _ _ (first l) (second l) _ _ (ha6.alloc _).rd (hb6.alloc _).rd hab (by omega) (by omega)).mono ?_
        rintro e w7 ⟨o7, rfl, ho7, hn7⟩
        rw [World.size_alloc] at ho7
        have hn7' : New w6 w7 := ((New.refl w6).alloc _).trans hn7
        have hs6 := hn6.size
        go_wp2_with fail
        refine (deleteFunc_any 24 #[.pointer (some ⟨wr.heap.size, 0, none⟩)] _ (enters _ _ _ Try.func24 (by kernel_rfl) rfl) _ (first l ++ second l) wb w7 HPRED.out (hn6.trans hn7') (ho7.mono (by omega)) (by rw [List.length_append]; omega)).mono ?_
        rintro e w8 ⟨o8, rfl, ho8, hf8⟩
        rw [HDIV.out] at ho8
        have ho6' := (ho6.new hn7').fr hf8 (fun g hg hs => by have := (ho7.block hs).1; have := HLT6.out g hg; omega)
        have hn8 : New wb w8 := Fr.trans' (hn6.trans hn7') hf8 fun i hi hs => by have := (ho7.block hs).1; omega
        have hfw := List.length_filter_le (fun x : Ev => !(x.k != kk)) l
        go_wp2_with fail
        refine (equal_any _ _ _ _ _ ho8.rd ho6'.rd (by omega) (by omega)).mono ?_
        rintro e w9 ⟨rfl, hn9⟩
        rw [decide_eq_true (Eq.refl _)]
        have hn09 := ((hnew.trans hnb).trans hn8).trans hn9
        go_wp2
        go_roundw
        case rel => exact ⟨k + 1, by omega, by go_num, hn09⟩
        case measure => simp [intOf]; omega
      · have hnr := hno.trans hnew
        go_wp2_with fail
        refine (alive_any _).mono ?_
        rintro e w5 ⟨rfl, hn5⟩
        have hn45 := hnr.trans hn5
        go_wp2_with fail
        refine (len_any (hq4.new hn45)).mono ?_
        rintro e w6 ⟨rfl, rfl⟩
        go_wp2_with fail
        refine (containsFunc_any 29 #[] _ (enters _ _ _ Try.func29 (by kernel_rfl) rfl) _ (first l) _ (law2_pred _) (ha5.new hn45).rd (by omega)).mono ?_
        rw [first_no2]
        rintro e w6 ⟨rfl, hn6⟩
        go_wp2
        go_ret
        exact ⟨rfl, (hn4.trans hn45).trans hn6⟩

end Go.Proofs.Ytjaapenojppnpaa
