/- The reference of chapter 14: each function's contract. -/
import Derived.Test.YtflalhciohdahaaLockP
import Derived.Test.YtflalhciohdahaaMore
import Derived.WalkSpells
import Derived.WalkLawsBesides
import Derived.Deep.QuietTactic
import Derived.BigQuiet
namespace Go.Proofs.Ytflalhciohdahaa
open Go.RowKit

theorem int_info : (Try.prog.info? 3).map (fun i => (i.zero, i.size, i.bytes)) = some (some (.int .i64 0), 1, 8) := by kernel_rfl

/-- Block g is a table of the reference: its slice is v, its owners O. -/
structure RTab (base : Nat) (w : World) (g : Nat) (v : Value) (O : List Int) (N : Int) : Prop where
  blk : Blk w g 32 #[v, .int .i64 N]
  own : Own (intE .i64) 3 base w v O

/-- The locks of an owner among the first k. -/
def heldAt (O : List Int) (o : Int) (k : Nat) : List Int := ((List.range k).filter fun i => decide (O.getD i (-1) = o)).map Int.ofNat
theorem heldAt_succ {O : List Int} {o : Int} {k : Nat} {x : Int} (hx : O[k]? = some x) : heldAt O o (k + 1) = heldAt O o k ++ if x = o then [(k : Int)] else [] := by
  unfold heldAt
  have hg : O.getD k (-1) = x := by rw [List.getD_eq_getElem?_getD, hx]; rfl
  rw [List.range_succ, List.filter_append, List.map_append]
  congr 1
  rw [List.filter_cons, hg]
  by_cases h : x = o
  · rw [if_pos h, if_pos (decide_eq_true h)]; rfl
  · rw [if_neg h, if_neg (by simpa using h)]; rfl
theorem heldAt_len (O : List Int) (o : Int) (k : Nat) : (heldAt O o k).length ≤ k := by
  unfold heldAt
  rw [List.length_map]
  have := List.length_filter_le (fun i => decide (O.getD i (-1) = o)) (List.range k)
  rwa [List.length_range] at this

set_option maxHeartbeats 1600000 in
theorem rnew_any (n : Nat) (hn : n ≤ 100) (w : World) : Calls Try.prog 14 #[.int .i64 n] w fun e w' => ∃ v, e = .returned (.agg #[v, .int .i64 0]) ∧ Own (intE .i64) 3 w.heap.size w' v (List.replicate n (-1)) ∧ New w w' := by
  obtain ⟨i0, hi, hz0, hz1, hz2⟩ := info_parts int_info
  go_enter Try.func14, Try.ntmps14
  go_wp2
  go_loopw [4] (fun vi wr => ∃ (k : Nat) (v : Value), k ≤ n ∧ vi = .int .i64 k ∧ Blk wr w.heap.size 32 #[.slice none 0 0, .int .i64 0] ∧ Blk wr (w.heap.size + 1) 32 #[v, .int .i64 0] ∧ Own (intE .i64) 3 w.heap.size wr v (List.replicate k (-1)) ∧ New w wr) (fun vi _ => n - (intOf vi).toNat)
  case atStart => exact ⟨0, _, Nat.zero_le _, rfl, (Blk.new _ _ _).alloc _, Blk.new1 _ _ _ _, Own.nil _ _ _ _, ((New.refl w).alloc _).alloc _⟩
  case round =>
    obtain ⟨k, v, hk, rfl, hb0, hb, hv, hnew⟩ := hrel
    have hsz := hnew.size
    have hblt := hb.lt
    have hlr : (List.replicate k (-1 : Int)).length = k := List.length_replicate
    have hne1 := hv.blk_ne hb (by decide)
    have hne0 := hv.blk_ne hb0 (by decide)
    obtain ⟨A, N0, C, rfl⟩ := own_shape hv
    have c0 : wr.cell? ⟨w.heap.size + 1, 0, none⟩ = some (.slice A N0 C) := hb.cell 0
    have HN1 := Lib.hid hne1
    have HN0 := Lib.hid hne0
    have HLR := Lib.hid hlr
    clear hne1 hne0 hlr
    by_cases hkn : k < n
    · go_wp2_with (at_builtin; refine wpList_push (E := intE .i64) rfl _ _ _ rfl Try.underlying30 hi hz0 hz1 hz2 rfl (hv.alloc _) rfl (-1) wr.heap.size (Blk.new _ _ _) 1 rfl (by rw [HLR.out]; unfold maxLen; omega) (by rw [HLR.out]; omega) (by simp; omega) ?_; intro v2 w2 hv2 hf2 hl2; obtain ⟨A2, N2, C2, hve⟩ := own_shape hv2; subst hve; have hb2 := Fr.blk hf2 (hb.alloc (.cells #[.int .i64 (-1)] 3)) HN1.out; have f2 : w2.frozen? ⟨w.heap.size + 1, 0, none⟩ = false := hb2.frozen 0; have c2 : w2.cell? ⟨w.heap.size + 1, 0, none⟩ = some (.slice A N0 C) := hb2.cell 0)
      have hb02 := Fr.blk hf2 (hb0.alloc (.cells #[.int .i64 (-1)] 3)) HN0.out
      have hone := (One.refl (w.heap.size + 1) w2).set 0 (.slice A2 N2 C2)
      have hne2 := hv2.blk_ne hb2 (by decide)
      have hrr : List.replicate k (-1 : Int) ++ [-1] = List.replicate (k + 1) (-1) := by rw [List.replicate_succ']
      go_roundw
      case rel =>
        refine ⟨k + 1, .slice A2 N2 C2, by omega, by go_num, One.blk hone hb02 (by omega), hb2.set_ 0 _, ?_, New.one (New.append (hnew.alloc _) (hv.alloc _) hf2) hone (by omega)⟩
        rw [← hrr]
        exact hv2.fr hone fun g hg e => hne2 (e ▸ hg)
      case measure => simp [intOf]; omega
    · obtain rfl : k = n := by omega
      have c1 : wr.cell? ⟨w.heap.size + 1, 1, none⟩ = some (.int .i64 0) := hb.cell 1
      have d0 : wr.cell? ⟨w.heap.size, 0, none⟩ = some (.slice none 0 0) := hb0.cell 0
      have d1 : wr.cell? ⟨w.heap.size, 1, none⟩ = some (.int .i64 0) := hb0.cell 1
      have f0 : wr.frozen? ⟨w.heap.size, 0, none⟩ = false := hb0.frozen 0
      have f1 : wr.frozen? ⟨w.heap.size, 1, none⟩ = false := hb0.frozen 1
      have hone := ((One.refl w.heap.size wr).set 0 (.slice A N0 C)).set 1 (.int .i64 0)
      have hbf : Blk ((wr.setCell ⟨w.heap.size, 0, none⟩ (.slice A N0 C)).setCell ⟨w.heap.size, 1, none⟩ (.int .i64 0)) w.heap.size 32 #[.slice A N0 C, .int .i64 0] := (hb0.set_ 0 _).set_ 1 _
      have g0 : ((wr.setCell ⟨w.heap.size, 0, none⟩ (.slice A N0 C)).setCell ⟨w.heap.size, 1, none⟩ (.int .i64 0)).cell? ⟨w.heap.size, 0, none⟩ = some (.slice A N0 C) := hbf.cell 0
      have g1 : ((wr.setCell ⟨w.heap.size, 0, none⟩ (.slice A N0 C)).setCell ⟨w.heap.size, 1, none⟩ (.int .i64 0)).cell? ⟨w.heap.size, 1, none⟩ = some (.int .i64 0) := hbf.cell 1
      have hvf := hv.fr hone fun g hg e => HN0.out (e ▸ hg)
      have hnf := New.one hnew hone (Nat.le_refl _)
      go_wp2
      exact bodyPost_ret (v := .agg #[.slice A N0 C, .int .i64 0]) (by simp [results, Try.results14, g0, g1, go_sem]) rfl ⟨_, rfl, hvf, hnf⟩

set_option maxHeartbeats 1600000 in
theorem rheld_any (v : Value) (O : List Int) (N o : Int) (w : World) (hv : Rd (intE .i64) w v O) (hl : O.length ≤ 1000) :
    Calls Try.prog 24 #[.agg #[v, .int .i64 N], .int .i64 o] w fun e w' => ∃ u, e = .returned u ∧ Own (intE .i64) 3 w.heap.size w' u (heldP O o) ∧ New w w' := by
  obtain ⟨A, c, rfl, hc, hA⟩ := hv.ints
  have HA := Lib.hid hA
  clear hA hv
  obtain ⟨i0, hi, hz0, hz1, hz2⟩ := info_parts int_info
  by_cases ho : o < 0
  · have hh : heldP O o = [] := by unfold heldP; rw [if_pos ho]
    rw [hh]
    have hd : decide (0 ≤ o) = false := decide_eq_false (by omega)
    clear hh
    by_cases h0 : O.length = 0
    · have hd1 : decide (0 < O.length) = false := decide_eq_false (by omega)
      go_enter Try.func24, Try.ntmps24
      go_wp2
      refine wp_loop_rounds 1 ?_
      rw [rounds_succ]
      go_wp2
      go_ret
      exact ⟨_, rfl, Own.nil _ _ _ _, (New.refl w).alloc _⟩
    · have hd1 : decide (0 < O.length) = true := decide_eq_true (by omega)
      go_enter Try.func24, Try.ntmps24
      go_wp2
      refine wp_loop_rounds 1 ?_
      rw [rounds_succ]
      go_wp2
      go_ret
      exact ⟨_, rfl, Own.nil _ _ _ _, (New.refl w).alloc _⟩
  · have HH : Hid (heldP O o = (heldN O o).map Int.ofNat) := by unfold heldP; rw [if_neg ho]; exact rfl
    have hd : decide (0 ≤ o) = true := decide_eq_true (by omega)
    go_enter Try.func24, Try.ntmps24
    go_wp2
    go_loopw [5, 6] (fun vo vi wr => ∃ (k : Nat), k ≤ O.length ∧ vi = .int .i64 k ∧ Blk wr w.heap.size 32 #[.slice A O.length c, .int .i64 N] ∧ Own (intE .i64) 3 w.heap.size wr vo (heldAt O o k) ∧ New w wr) (fun _ vi _ => O.length - (intOf vi).toNat)
    case atStart => exact ⟨0, Nat.zero_le _, rfl, Blk.new _ _ _, Own.nil _ _ _ _, (New.refl w).alloc _⟩
    case round =>
      obtain ⟨k, hk, rfl, hb, hu, hnew⟩ := hrel
      have hsz := hnew.size
      have hblt := hb.lt
      have hne := hu.blk_ne hb (by decide)
      have hlh := heldAt_len O o k
      have c0 : wr.cell? ⟨w.heap.size, 0, none⟩ = some (.slice A O.length c) := hb.cell 0
      have HN := Lib.hid hne
      clear hne
      by_cases hkn : k < O.length
      · obtain ⟨x, hx⟩ : ∃ x, O[k]? = some x := ⟨_, List.getElem?_eq_getElem hkn⟩
        obtain ⟨g, off, rfl, hcell⟩ := HA.out (by rintro rfl; simp at hkn)
        have e0 : wr.cell? ⟨g, off + k, none⟩ = some (.int .i64 x) := Fr.cell hnew (hcell k _ hx) id
        have hst := heldAt_succ (o := o) hx
        have HST := Lib.hid hst
        clear hcell hx hst
        by_cases hxo : x = o
        · subst hxo
          go_wp2_with (at_builtin; refine wpList_push (E := intE .i64) rfl _ _ _ rfl Try.underlying30 hi hz0 hz1 hz2 rfl (hu.alloc _) rfl (k : Int) wr.heap.size (Blk.new _ _ _) 1 rfl (by unfold maxLen; omega) (by omega) (by simp; omega) ?_; intro v2 w2 hv2 hf2 hl2)
          have hb2 := Fr.blk hf2 (hb.alloc (.cells #[.int .i64 k] 3)) HN.out
          have hn2 := New.append (hnew.alloc _) (hu.alloc _) hf2
          have hst := HST.out
          rw [if_pos rfl] at hst
          rw [← hst] at hv2
          clear hst
          go_roundw
          case rel => exact ⟨k + 1, by omega, by go_num, hb2, hv2, hn2⟩
          case measure => simp [intOf]; omega
        · have hq : (x == o) = false := by simp [hxo]
          have hst := HST.out
          rw [if_neg hxo, List.append_nil] at hst
          have hu2 := hu
          rw [← hst] at hu2
          clear hst
          go_wp2
          go_roundw
          case rel => exact ⟨k + 1, by omega, by go_num, hb, hu2, hnew⟩
          case measure => simp [intOf]; omega
      · obtain rfl : k = O.length := by omega
        have hfin : heldAt O o O.length = heldP O o := by rw [HH.out]; rfl
        rw [hfin] at hu
        clear hfin
        go_wp2
        go_ret
        exact ⟨_, rfl, hu, hnew⟩

set_option maxHeartbeats 800000 in
theorem rowner_any (v : Value) (O : List Int) (N k : Int) (w : World) (hv : Rd (intE .i64) w v O) (hl : O.length ≤ 1000) :
    Calls Try.prog 21 #[.agg #[v, .int .i64 N], .int .i64 k] w fun e w' => e = .returned (.int .i64 (ownerP O k)) ∧ New w w' := by
  obtain ⟨A, c, rfl, hc, hA⟩ := hv.ints
  by_cases hk : k < 0 ∨ (O.length : Int) ≤ k
  · rw [ownerP_out hk]
    clear hA
    rcases hk with hk | hk
    · go_enter Try.func21, Try.ntmps21
      go_wp2
      go_ret
      exact ⟨rfl, (New.refl _).alloc _⟩
    · by_cases hk0 : k < 0
      · go_enter Try.func21, Try.ntmps21
        go_wp2
        go_ret
        exact ⟨rfl, (New.refl _).alloc _⟩
      · go_enter Try.func21, Try.ntmps21
        go_wp2
        go_ret
        exact ⟨rfl, (New.refl _).alloc _⟩
  · obtain ⟨i, rfl⟩ : ∃ i : Nat, k = i := ⟨k.toNat, by omega⟩
    obtain ⟨x, hx⟩ : ∃ x, O[i]? = some x := ⟨_, List.getElem?_eq_getElem (by omega)⟩
    obtain ⟨b, off, rfl, hcell⟩ := hA (by rintro rfl; simp at hx)
    have e0 : ∀ o : Obj, (w.alloc o).cell? ⟨b, off + i, none⟩ = some (.int .i64 x) := fun o => Fr.cell ((New.refl w).alloc o) (hcell i _ hx) id
    have hr : ownerP O i = x := by rw [ownerP_nat, List.getD_eq_getElem?_getD, hx]; rfl
    rw [hr]
    clear hx hr hcell hA hv
    have h1 : ¬ (i : Int) < 0 := by omega
    have h2 : ¬ (O.length : Int) ≤ i := by omega
    go_enter Try.func21, Try.ntmps21
    go_wp2
    go_ret
    exact ⟨rfl, (New.refl _).alloc _⟩

set_option maxHeartbeats 1600000 in
theorem rfree_any (v : Value) (O : List Int) (N : Int) (w : World) (hv : Rd (intE .i64) w v O) (hl : O.length ≤ 1000) :
    Calls Try.prog 25 #[.agg #[v, .int .i64 N]] w fun e w' => e = .returned (.bool (freeP O)) ∧ New w w' := by
  obtain ⟨A, c, rfl, hc, hA⟩ := hv.ints
  have HA := Lib.hid hA
  clear hA hv
  obtain ⟨q, hq⟩ : ∃ q, q = freeP O := ⟨_, rfl⟩
  rw [← hq]
  have HQ := Lib.hid hq
  clear hq
  go_enter Try.func25, Try.ntmps25
  go_wp2
  go_loopw [3] (fun vi wr => ∃ (k : Nat), k ≤ O.length ∧ vi = .int .i64 k ∧ Blk wr w.heap.size 32 #[.slice A O.length c, .int .i64 N] ∧ Hid (∀ x ∈ O.take k, x < 0) ∧ New w wr) (fun vi _ => O.length - (intOf vi).toNat)
  case atStart => exact ⟨0, Nat.zero_le _, rfl, Blk.new _ _ _, (fun x hx => by simp at hx), (New.refl w).alloc _⟩
  case round =>
    obtain ⟨k, hk, rfl, hb, HS, hnew⟩ := hrel
    have c0 : wr.cell? ⟨w.heap.size, 0, none⟩ = some (.slice A O.length c) := hb.cell 0
    by_cases hkn : k < O.length
    · obtain ⟨x, hx⟩ : ∃ x, O[k]? = some x := ⟨_, List.getElem?_eq_getElem hkn⟩
      obtain ⟨g, off, rfl, hcell⟩ := HA.out (by rintro rfl; simp at hkn)
      have e0 : wr.cell? ⟨g, off + k, none⟩ = some (.int .i64 x) := Fr.cell hnew (hcell k _ hx) id
      have HX := Lib.hid hx
      clear hcell hx
      by_cases hx0 : 0 ≤ x
      · have hq : q = false := by
          rw [HQ.out]
          unfold freeP
          exact List.all_eq_false.2 ⟨x, List.mem_of_getElem? HX.out, by simp; omega⟩
        subst hq
        go_wp2
        go_ret
        exact ⟨rfl, hnew⟩
      · go_wp2
        go_roundw
        case rel =>
          refine ⟨k + 1, by omega, by go_num, hb, fun y hy => ?_, hnew⟩
          rw [take_snocI HX.out] at hy
          rcases List.mem_append.1 hy with hy | hy
          · exact HS.out y hy
          · rw [List.mem_singleton.1 hy]; omega
        case measure => simp [intOf]; omega
    · obtain rfl : k = O.length := by omega
      have hq : q = true := by
        rw [HQ.out]
        unfold freeP
        refine List.all_eq_true.2 fun x hx => ?_
        have := HS.out x (by rw [List.take_length]; exact hx)
        simpa using this
      subst hq
      go_wp2
      go_ret
      exact ⟨rfl, hnew⟩

set_option maxRecDepth 100000 in
set_option maxHeartbeats 1600000 in
theorem rblocked_any (v u : Value) (O l : List Int) (N o : Int) (w : World) (hv : Rd (intE .i64) w v O) (hl : O.length ≤ 1000) (hu : Rd (intE .i64) w u l) (hll : l.length ≤ 1000) :
    Calls Try.prog 17 #[.agg #[v, .int .i64 N], .int .i64 o, u] w fun e w' => e = .returned (.bool (blockedP O o l)) ∧ New w w' := by
  have HV := Lib.hid hv
  obtain ⟨A, c, rfl, hc, hA⟩ := hv.ints
  obtain ⟨B, d, rfl, hd, hB⟩ := hu.ints
  have HB := Lib.hid hB
  clear hA hv hB hu
  obtain ⟨q, hq⟩ : ∃ q, q = blockedP O o l := ⟨_, rfl⟩
  rw [← hq]
  have HQ := Lib.hid hq
  clear hq
  go_enter Try.func17, Try.ntmps17
  go_wp2
  go_loopw [7] (fun vi wr => ∃ (k : Nat), k ≤ l.length ∧ vi = .int .i64 k ∧ Blk wr w.heap.size 32 #[.slice A O.length c, .int .i64 N] ∧ Hid (∀ x ∈ l.take k, notMine O o x = false) ∧ New w wr) (fun vi _ => l.length - (intOf vi).toNat)
  case atStart => exact ⟨0, Nat.zero_le _, rfl, Blk.new _ _ _, (fun x hx => by simp at hx), (New.refl w).alloc _⟩
  case round =>
    obtain ⟨k, hk, rfl, hb, HS, hnew⟩ := hrel
    have c0 : wr.cell? ⟨w.heap.size, 0, none⟩ = some (.slice A O.length c) := hb.cell 0
    have c1 : wr.cell? ⟨w.heap.size, 1, none⟩ = some (.int .i64 N) := hb.cell 1
    by_cases hkn : k < l.length
    · obtain ⟨x, hx⟩ : ∃ x, l[k]? = some x := ⟨_, List.getElem?_eq_getElem hkn⟩
      obtain ⟨g, off, rfl, hcell⟩ := HB.out (by rintro rfl; simp at hkn)
      have e0 : wr.cell? ⟨g, off + k, none⟩ = some (.int .i64 x) := Fr.cell hnew (hcell k _ hx) id
      have HX := Lib.hid hx
      clear hcell hx
      go_wp2_with fail
      refine wp_tail 5 (by kernel_rfl) (by kernel_rfl) ?_
      simp only [List.take_succ_cons, List.take_zero, List.drop_succ_cons, List.drop_zero]
      repeat still_step
      refine wpStill_nil ?_
      go_wp2_with fail
      refine (rowner_any _ O N x wr.drew (HV.out.new hnew.drew) hl).mono ?_
      have hnm : notMine O o x = (decide (ownerP O x < 0) || decide (ownerP O x ≠ o)) := rfl
      have HNM := Lib.hid hnm
      clear hnm
      have hfind : blockedP O o l = match l.find? (notMine O o) with | none => false | some k => decide (0 ≤ ownerP O k) := rfl
      have hpre : notMine O o x = true → l.find? (notMine O o) = some x := by
        intro h1
        have hl2 : l = l.take k ++ x :: l.drop (k + 1) := by
          rw [← (List.getElem?_eq_some_iff.1 HX.out).2, ← List.drop_eq_getElem_cons hkn, List.take_append_drop]
        rw [hl2, List.find?_append, List.find?_eq_none.2 (fun y hy => by rw [HS.out y hy]; simp), List.find?_cons_of_pos h1]
        rfl
      have HF := Lib.hid hfind
      have HP := Lib.hid hpre
      clear hfind hpre
      generalize hy : ownerP O x = y at *
      have HY := Lib.hid hy
      clear hy
      rintro e w2 ⟨rfl, hn2⟩
      have hnew2 := hnew.drew.trans hn2
      by_cases h1 : y = o
      · subst h1
        by_cases h0 : y < 0
        · have hq : q = false := by
            have h3 : notMine O y x = true := by rw [HNM.out]; simp [h0]
            rw [HQ.out, HF.out, HP.out h3]
            show decide (0 ≤ ownerP O x) = false
            rw [HY.out]; simp; omega
          subst hq
          have hd : decide (0 ≤ y) = false := decide_eq_false (by omega)
          go_wp2
          go_ret
          exact ⟨rfl, hnew2⟩
        · have hnm : notMine O y x = false := by rw [HNM.out]; simp [h0]
          have HN2 := Lib.hid hnm
          clear hnm
          have hb2 := hn2.blk hb.drew
          have hd : decide (y < 0) = false := decide_eq_false (by omega)
          go_wp2
          go_roundw
          case rel =>
            refine ⟨k + 1, by omega, by go_num, hb2, fun y hy => ?_, hnew2⟩
            rw [take_snocI HX.out] at hy
            rcases List.mem_append.1 hy with hy | hy
            · exact HS.out y hy
            · rw [List.mem_singleton.1 hy]; exact HN2.out
          case measure => simp [intOf]; omega
      · have hq1 : (y != o) = true := by simp [h1]
        have h3 : notMine O o x = true := by rw [HNM.out]; simp [h1]
        have hq : q = decide (0 ≤ y) := by
          rw [HQ.out, HF.out, HP.out h3]
          show decide (0 ≤ ownerP O x) = _
          rw [HY.out]
        clear h3
        subst hq
        go_wp2
        go_ret
        exact ⟨rfl, hnew2⟩
    · obtain rfl : k = l.length := by omega
      have hq : q = false := by
        rw [HQ.out]
        unfold blockedP
        rw [List.find?_eq_none.2 (fun y hy => by rw [HS.out y (by rw [List.take_length]; exact hy)]; simp)]
      subst hq
      go_wp2
      go_ret
      exact ⟨rfl, hnew⟩

theorem RTab.fr {S : Nat → Prop} {base : Nat} {w w' : World} {g : Nat} {v : Value} {O : List Int} {N : Int} (h : RTab base w g v O N) (hf : Fr S w w') (hg : ¬ S g) (hv : ∀ b, v.ownBlock = some b → ¬ S b) : RTab base w' g v O N :=
  ⟨Fr.blk hf h.blk hg, h.own.fr hf hv⟩
theorem RTab.new {base : Nat} {w w' : World} {g : Nat} {v : Value} {O : List Int} {N : Int} (h : RTab base w g v O N) (hf : New w w') : RTab base w' g v O N := h.fr hf id fun _ _ => id
theorem RTab.ne {base : Nat} {w : World} {g : Nat} {v : Value} {O : List Int} {N : Int} (h : RTab base w g v O N) : v.ownBlock ≠ some g := h.own.blk_ne h.blk (by decide)

/-- What an operation of the reference may turn. -/
abbrev RFr (g : Nat) (v : Value) (w w' : World) : Prop := Fr (fun k => k = g ∨ v.ownBlock = some k) w w'

set_option maxRecDepth 100000 in
set_option maxHeartbeats 1600000 in
theorem rrelease_any {base : Nat} {w : World} {g : Nat} {v : Value} {O : List Int} {N : Int} (h : RTab base w g v O N) (hl : O.length ≤ 1000) (hO : Ows O) (o : Int) :
    Calls Try.prog 19 #[.pointer (some ⟨g, 0, none⟩), .int .i64 o] w fun e w' => e = .returned (.int .i64 (heldP O o).length) ∧ RTab base w' g v (relO O o) N ∧ RFr g v w w' := by
  have hne := h.ne
  have hb := h.blk
  have hov := h.own
  obtain ⟨A, c, rfl, hc⟩ := h.own.form
  have c0 : w.cell? ⟨g, 0, none⟩ = some (.slice A O.length c) := h.blk.cell 0
  have c1 : w.cell? ⟨g, 1, none⟩ = some (.int .i64 N) := h.blk.cell 1
  have hrng : ∀ x ∈ heldP O o, 0 ≤ x ∧ x < O.length := fun x hx => heldP_range hx
  have hrel : ∀ j : Nat, (relO O o).getD j (-1) = if (j : Int) ∈ heldP O o then -1 else O.getD j (-1) := by
    intro j
    have h1 := ownerP_relO O o j
    rw [ownerP_nat, ownerP_nat] at h1
    rw [h1]
    by_cases ho : 0 ≤ o
    · have := mem_heldP (O := O) (k := j) ho
      rw [ownerP_nat] at this
      by_cases h2 : O.getD j (-1) = o
      · rw [if_pos h2, if_pos (this.2 h2)]
      · rw [if_neg h2, if_neg (fun h => h2 (this.1 h))]
    · have h3 : heldP O o = [] := by unfold heldP; rw [if_pos (by omega)]
      have hno : ¬ (j : Int) ∈ heldP O o := by rw [h3]; simp
      rw [if_neg hno]
      have hlo := ownerP_lo hO j
      rw [ownerP_nat] at hlo
      by_cases h2 : O.getD j (-1) = o
      · rw [if_pos h2]; omega
      · rw [if_neg h2]
  have hrl := relO_len O o
  have HRL := Lib.hid hrl
  have HREL := Lib.hid hrel
  have HRNG := Lib.hid hrng
  have HNE := Lib.hid hne
  clear h hrel hrng hne hrl
  go_enter Try.func19, Try.ntmps19
  go_wp2_with fail
  refine (rheld_any _ O N o w hov.rd hl).mono ?_
  rintro e w1 ⟨u, rfl, hu, hn1⟩
  obtain ⟨H, hH⟩ : ∃ H, heldP O o = H := ⟨_, rfl⟩
  rw [hH] at hu
  have HEQ := Lib.hid hH
  have hHl := heldP_len O o
  rw [hH] at hHl
  have hHd : H.Nodup := by rw [← hH]; exact (heldP_sorted O o).imp fun h => by omega
  have HHD := Lib.hid hHd
  clear hH hHd
  have HU := Lib.hid hu
  obtain ⟨B, d, rfl, hd, hB⟩ := hu.rd.ints
  have HB := Lib.hid hB
  have hub : ∀ x, B = some x → w.heap.size ≤ x.block := by
    rintro ⟨xb, xo, xs⟩ rfl
    exact (HU.out.block rfl).1
  have HUB := Lib.hid hub
  have hb1 := hn1.blk hb
  have hov1 := hov.new hn1
  have hgl := hb.lt
  clear hB hu hub
  go_wp2
  go_loopw [6] (fun vi wr => ∃ (k : Nat) (m : List Int), k ≤ H.length ∧ vi = .int .i64 k ∧ m.length = O.length ∧ Blk wr g 32 #[.slice A O.length c, .int .i64 N] ∧ Own (intE .i64) 3 base wr (.slice A O.length c) m ∧
    Hid (∀ j : Nat, m.getD j (-1) = if (j : Int) ∈ H.take k then -1 else O.getD j (-1)) ∧ Fr (fun q => (Value.slice A O.length c).ownBlock = some q) w1 wr) (fun vi _ => H.length - (intOf vi).toNat)
  case atStart => exact ⟨0, O, Nat.zero_le _, rfl, rfl, hb1, hov1, (fun j => by rw [List.take_zero, if_neg (by simp)]), Fr.refl _ _⟩
  case round =>
    obtain ⟨k, m, hk, rfl, hm, hbr, hor, HM, hf⟩ := hrel
    have d0 : wr.cell? ⟨g, 0, none⟩ = some (.slice A O.length c) := hbr.cell 0
    by_cases hkn : k < H.length
    · obtain ⟨x, hx⟩ : ∃ x, H[k]? = some x := ⟨_, List.getElem?_eq_getElem hkn⟩
      have hxr : 0 ≤ x ∧ x < O.length := HRNG.out x (by rw [HEQ.out]; exact List.mem_of_getElem? hx)
      obtain ⟨xn, rfl⟩ : ∃ xn : Nat, x = xn := ⟨x.toNat, by omega⟩
      obtain ⟨hb', hoff, rfl, hcell⟩ := HB.out (by rintro rfl; simp at hkn)
      have hgb : w.heap.size ≤ hb' := HUB.out _ rfl
      have hAl : ∀ q, (Value.slice A O.length c).ownBlock = some q → q < w.heap.size := fun q hq => (hov.block hq).2
      have e0 : wr.cell? ⟨hb', hoff + k, none⟩ = some (.int .i64 xn) := Fr.cell hf (hcell k _ hx) (fun hs => by have h9 : hb' < w.heap.size := hAl _ hs; omega)
      obtain ⟨gg, rfl⟩ := hor.some1 (by omega)
      obtain ⟨y, hy⟩ : ∃ y, m[xn]? = some y := ⟨_, List.getElem?_eq_getElem (by omega)⟩
      have f0 : wr.drew.cell? ⟨gg, xn, none⟩ = some (.int .i64 y) := hor.icell hy
      have f1 : wr.drew.frozen? ⟨gg, xn, none⟩ = false := hor.ifrozen _
      have hst := hor.drew.istored xn (-1)
      have hneg : gg ≠ g := fun e => HNE.out (by rw [e]; rfl)
      have hbs : Blk (wr.drew.setCell ⟨gg, xn, none⟩ (.int .i64 (-1))) g 32 #[.slice (some ⟨gg, 0, none⟩) O.length c, .int .i64 N] := hbr.drew.far (p := ⟨gg, xn, none⟩) (fun e => hneg e.symm) _
      have hfs : Fr (fun q => (Value.slice (some ⟨gg, 0, none⟩) O.length c).ownBlock = some q) w1 (wr.drew.setCell ⟨gg, xn, none⟩ (.int .i64 (-1))) := Fr.setCell (p := ⟨gg, xn, none⟩) hf.drew (fun _ => rfl) _
      have HX := Lib.hid hx
      have hxlt : xn < m.length := by omega
      clear hcell hx hAl hy
      go_wp2_with fail
      refine wp_tail 8 (by kernel_rfl) (by kernel_rfl) ?_
      simp only [List.take_succ_cons, List.take_zero, List.drop_succ_cons, List.drop_zero]
      repeat still_step
      refine wpStill_nil ?_
      go_wp2
      go_roundw
      case rel =>
        refine ⟨k + 1, m.set xn (-1), by omega, by go_num, by rw [List.length_set]; exact hm, hbs, hst, fun j => ?_, hfs⟩
        rw [take_snocI HX.out]
        by_cases hj : j = xn
        · subst hj
          rw [getD_set_self hxlt, if_pos (by simp)]
        · rw [List.getD_eq_getElem?_getD, List.getElem?_set_ne (fun e => hj e.symm), ← List.getD_eq_getElem?_getD, HM.out j]
          by_cases hmj : (j : Int) ∈ H.take k
          · rw [if_pos hmj, if_pos (List.mem_append_left _ hmj)]
          · rw [if_neg hmj, if_neg (by rw [List.mem_append]; rintro (h1 | h1); exact hmj h1; have := List.mem_singleton.1 h1; omega)]
      case measure => simp [intOf]; omega
    · obtain rfl : k = H.length := by omega
      have hmr : m = relO O o := by
        refine List.ext_getElem? fun j => ?_
        have h1 := HM.out j
        rw [List.take_length, ← HEQ.out, ← HREL.out j] at h1
        have hrl := HRL.out
        rcases Nat.lt_or_ge j m.length with h2 | h2
        · rw [List.getD_eq_getElem?_getD, List.getD_eq_getElem?_getD, List.getElem?_eq_getElem h2, List.getElem?_eq_getElem (by omega)] at h1
          rw [List.getElem?_eq_getElem h2, List.getElem?_eq_getElem (by omega)]
          exact congrArg some h1
        · rw [List.getElem?_eq_none h2, List.getElem?_eq_none (by omega)]
      have HMR := Lib.hid hmr
      clear hmr
      go_wp2
      go_ret
      refine ⟨by rw [HEQ.out]; rfl, ⟨hbr, by rw [← HMR.out]; exact hm ▸ hor⟩, (New.to hn1).trans' hf fun i _ hi => Or.inr hi⟩

end Go.Proofs.Ytflalhciohdahaa
