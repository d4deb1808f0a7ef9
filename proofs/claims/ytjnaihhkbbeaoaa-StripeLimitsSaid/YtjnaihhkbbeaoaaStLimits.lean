/- StripeLimits: the walk. -/
import Derived.Test.YtjnaihhkbbeaoaaStKeeps
namespace Go.Proofs.Ytjnaihhkbbeaoaa
open Go.RowKit

theorem Made.below {w wr w' : World} {base : Nat} {T : Tb} {X : List MB} {S : Nat → Prop} (h : Made w wr base T X) (hf : Fr S wr w') (hS : ∀ k, S k → T.hi ≤ k ∧ k < base) : Made w w' base T X := by
  refine ⟨h.tbl.fr hf (fun k hk hft => ?_) (fun v l hv b hb hs => ?_), h.lo, h.hi, Nat.le_trans h.bs hf.size, New.two h.new hf fun k hk => ?_⟩
  · have h1 := (hS k hk).1
    have h2 := hft.2
    omega
  · have h1 := (hS b hs).2
    have h2 := (hv.block hb).1
    omega
  · have h1 := (hS k hk).1
    have h2 := h.lo
    have h3 := h.tbl.rtb
    have h4 := h3.1
    have h5 := h3.2
    omega
theorem Made.rebase {w wr : World} {base : Nat} {T : Tb} (h : Made w wr base T []) : Made w wr wr.heap.size T [] := ⟨h.tbl.rebase, h.lo, Nat.le_trans h.hi h.bs, Nat.le_refl _, h.new⟩

theorem madeBytes (n : Nat) : (madeCells #[Value.int .u8 0] (n * 1)).toList = (intE .u8).cells (List.replicate n 0) := by
  rw [intE_cells, List.map_replicate]
  refine List.ext_getElem (by simp [madeCells]) fun i h1 h2 => ?_
  simp [madeCells, Nat.mod_one]

set_option maxRecDepth 100000 in
set_option maxHeartbeats 6400000 in
theorem limits_law (kd : Int) (w : World) (h0 : 0 ≤ kd) (_h1 : kd ≤ 255) :
    Calls Try.prog 4 #[.int .u8 kd] w fun e w' => e = .returned (.bool true) ∧ New w w' := by
  obtain ⟨i0, hi, hz0, hz1, hz2⟩ := info_parts u8_info
  obtain ⟨N, hN⟩ : ∃ N : Nat, N = 65536 := ⟨_, rfl⟩
  have HNI := Lib.hid (show (65536 : Int) = (N : Int) by omega)
  have hNle : N ≤ 65536 := by omega
  have hNge : 65536 ≤ N := by omega
  clear hN
  have hmod : Int.tmod kd 3 = kd % 3 := Int.tmod_eq_emod_of_nonneg h0
  have hmw : IntKind.u8.wrap (kd % 3) = kd % 3 := by simp [IntKind.wrap_u8]; omega
  obtain ⟨r, hr⟩ : ∃ r, kd % 3 = r := ⟨_, rfl⟩
  rw [hr] at hmod hmw
  go_enter Try.func4, Try.ntmps4
  go_wp2_with fail
  refine (tnew_any 2 (by omega) (by omega) _).mono ?_
  rintro e w1 ⟨T, rfl, hTn, hlo, hhi, hT, hn1⟩
  go_wp2_with (first
    | (at_make; refine wpList_make_full _ rfl _ _ 32 rfl w1.heap.size 5 i0 _ 1 Try.underlying32 hi hz0 hz1 _ _ _ _ N rfl rfl HNI.out HNI.out (by rw [hz2]; omega) (by unfold maxLen; omega) (Nat.le_refl _) ?_; intro w2 hr2 hg2)
    | fail)
  have hn2 : New w1 w2 := Fr.of_grown hg2 fun _ h => by cases h
  have hs2 := hn2.size
  obtain ⟨l0, hl0⟩ : ∃ l0, List.replicate N (0 : Int) = l0 := ⟨_, rfl⟩
  have hl0n : l0.length = N := by rw [← hl0]; simp
  have hv2 : Own (intE .u8) 5 w1.heap.size w2 (.slice (some ⟨w1.heap.size, 0, none⟩) N N) l0 := by
    unfold Own
    rw [← hl0, ← madeBytes, List.length_replicate]
    exact hr2
  obtain ⟨w3, hw3⟩ : ∃ w3, w3 = w2.alloc (.cells #[.int .u32 5, .int .u8 31, .slice (some ⟨w1.heap.size, 0, none⟩) N N] 34) := ⟨_, rfl⟩
  have hn3 : New w2 w3 := by rw [hw3]; exact (New.refl _).alloc _
  have bm3 : Blk w3 w2.heap.size 34 #[.int .u32 5, .int .u8 31, .slice (some ⟨w1.heap.size, 0, none⟩) N N] := by rw [hw3]; exact Blk.new _ _ _
  have HM3 := Lib.hid (((Made.of hT hlo hhi hn1).more (hn2.trans hn3)).rebase)
  have hth : T.hi = w1.heap.size := hhi
  have hs31 : w3.heap.size = w2.heap.size + 1 := by rw [hw3]; simp
  have HV3 := Lib.hid (hv2.new hn3)
  have HP1 : Hid (putC (([] : List MB).map MB.m) ⟨5, 31, l0⟩ = 0 ∧ putM (([] : List MB).map MB.m) ⟨5, 31, l0⟩ = [⟨5, 31, l0⟩] ∧ putC [⟨5, 31, l0⟩] ⟨5, 31, l0⟩ = 8 ∧ putM [⟨5, 31, l0⟩] ⟨5, 31, l0⟩ = [⟨5, 31, l0⟩] ∧ withL [⟨5, 31, l0⟩] 0 = [5]) := by
    have hc : ¬ ((5 : Int) = 0 ∨ (31 : Int) < 31 ∨ 65536 < l0.length) := by omega
    have h1 : putC (([] : List MB).map MB.m) ⟨5, 31, l0⟩ = 0 := by unfold putC; rw [if_neg hc]; rfl
    have h2 : putC [⟨5, 31, l0⟩] ⟨5, 31, l0⟩ = 8 := by unfold putC; rw [if_neg hc]; simp [findM]
    exact ⟨h1, by unfold putM; rw [h1]; rfl, h2, by unfold putM; rw [h2]; rfl, by simp [withL, andI]⟩
  have HW3 := Lib.hid hw3
  have HR := Lib.hid hr
  have hs3 := hn3.size
  clear hr2 hg2 hl0 hv2 hw3 hT hn1 hlo hhi hr
  have m0 : w3.cell? ⟨w2.heap.size, 0, none⟩ = some (.int .u32 5) := bm3.cell 0
  have m1 : w3.cell? ⟨w2.heap.size, 1, none⟩ = some (.int .u8 31) := bm3.cell 1
  have m2 : w3.cell? ⟨w2.heap.size, 2, none⟩ = some (.slice (some ⟨w1.heap.size, 0, none⟩) N N) := bm3.cell 2
  go_wp2_with fail
  rw [← HW3.out]
  clear HW3
  have hp1 := tput_any HM3.out.tbl HM3.out.bs (by simp) ⟨⟨5, 31, l0⟩, some ⟨w1.heap.size, 0, none⟩, N, N⟩ (by simp [Msg.wf]) (by have := HV3.out.rd; rw [← hl0n] at this ⊢; exact this)
  rw [HP1.out.1, HP1.out.2.1] at hp1
  refine hp1.mono ?_
  rintro e w4 ⟨rfl, X, hX, hXl, hT4, hf4⟩
  have HM4 := Lib.hid (HM3.out.turn hT4 hf4)
  have hrow := fun b hb => HV3.out.block (b := b) hb
  have hthi := HM3.out.hi
  have bm4 := hf4.blk bm3 (fun hs => by have := hs.2; omega)
  have HV4 := Lib.hid (HV3.out.fr hf4 fun b hb hs => by have h1 := (hrow b hb).1; have h2 := hs.2; omega)
  have hXl : X.length ≤ 1 := hXl
  clear hp1 hT4 hf4 hrow bm3 m0 m1 m2 HM3 HV3
  have m0 : w4.cell? ⟨w2.heap.size, 0, none⟩ = some (.int .u32 5) := bm4.cell 0
  have m1 : w4.cell? ⟨w2.heap.size, 1, none⟩ = some (.int .u8 31) := bm4.cell 1
  have m2 : w4.cell? ⟨w2.heap.size, 2, none⟩ = some (.slice (some ⟨w1.heap.size, 0, none⟩) N N) := bm4.cell 2
  have hp2 := tput_any HM4.out.tbl HM4.out.bs (by omega) ⟨⟨5, 31, l0⟩, some ⟨w1.heap.size, 0, none⟩, N, N⟩ (by simp [Msg.wf]) (by have := HV4.out.rd; rw [← hl0n] at this ⊢; exact this)
  rw [hX, HP1.out.2.2.1, HP1.out.2.2.2.1] at hp2
  have HP2 := Lib.hid hp2
  have HX := Lib.hid hX
  clear hp2 hX
  go_wp2_with fail
  refine HP2.out.mono ?_
  rintro e w5 ⟨rfl, Y, hY, hYl, hT5, hf5⟩
  have HM5 := Lib.hid (HM4.out.turn hT5 hf5)
  have hrow := fun b hb => HV4.out.block (b := b) hb
  have bm5 := hf5.blk bm4 (fun hs => by have := hs.2; omega)
  have HV5 := Lib.hid (HV4.out.fr hf5 fun b hb hs => by have h1 := (hrow b hb).1; have h2 := hs.2; omega)
  have HY := Lib.hid hY
  clear hT5 hf5 hrow bm4 m0 m1 m2 HM4 HV4 HP2 hY
  have m0 : w5.cell? ⟨w2.heap.size, 0, none⟩ = some (.int .u32 5) := bm5.cell 0
  have f0 : w5.frozen? ⟨w2.heap.size, 0, none⟩ = false := bm5.frozen 0
  have bm6 := bm5.set_ 0 (.int .u32 6)
  have m0' : w5.cell? ⟨w2.heap.size, 1, none⟩ = some (.int .u8 31) := bm5.cell 1
  have m2' : w5.cell? ⟨w2.heap.size, 2, none⟩ = some (.slice (some ⟨w1.heap.size, 0, none⟩) N N) := bm5.cell 2
  have f1 : w5.frozen? ⟨w2.heap.size, 1, none⟩ = false := bm5.frozen 1
  have f2 : w5.frozen? ⟨w2.heap.size, 2, none⟩ = false := bm5.frozen 2
  have HTAIL : Hid (∀ (wz : World) (x : MB), Made w wz w3.heap.size T Y → x.m.wf → Rd (intE .u8) wz x.bv x.m.body → (x.m.uid = 0 ∨ 31 < x.m.fl ∨ 65536 < x.m.body.length) →
      Calls Try.prog 13 #[.pointer (some ⟨T.tb, 0, none⟩), x.val] wz fun e w' => e = .returned (.int .i64 2) ∧ New wz w') :=
    Lib.hid (fun wz x _ _ hb hc => tput_range T.tb x wz hb hc)
  have HWITH : Hid (∀ (wz : World), Made w wz w3.heap.size T Y → Calls Try.prog 15 #[.pointer (some ⟨T.tb, 0, none⟩), .int .u8 0] wz fun e w' => ∃ A c, e = .returned (.slice A 1 c) ∧ Rd (intE .u32) w' (.slice A 1 c) [5] ∧ New w w') :=
    Lib.hid (fun wz hz => by
      have h1 := twith_any hz.tbl (by omega) 0 (by omega)
      rw [HY.out, HP1.out.2.2.2.2, List.mergeSort_singleton] at h1
      refine h1.mono ?_
      rintro e w' ⟨o, rfl, ho, hT', hf'⟩
      obtain ⟨A, c, rfl, _⟩ := ho.form
      exact ⟨A, c, rfl, ho.rd, (hz.turn hT' hf').new⟩)
  have hN1 : Hid (Made w (w5.setCell ⟨w2.heap.size, 0, none⟩ (.int .u32 6)) w3.heap.size T Y) := Lib.hid (HM5.out.below ((Fr.refl (fun k => k = w2.heap.size) _).setCell (p := ⟨w2.heap.size, 0, none⟩) (fun _ => rfl) _) fun k hk => by omega)
  have hV6 := Lib.hid (HV5.out.fr ((Fr.refl (fun k => k = w2.heap.size) _).setCell (p := ⟨w2.heap.size, 0, none⟩) (fun _ => rfl) (.int .u32 6)) fun b hb hs => by obtain ⟨cs, h1⟩ := HV5.out.heap hb; exact h1.ne_ bm5 (by decide) hs)
  clear bm5
  by_cases hr0 : r = 0
  · have hq0 : (r == 0) = true := by simp [hr0]
    clear hr0
    have bm7 := bm6.set_ 0 (.int .u32 0)
    have HM7 : Hid (Made w ((w5.setCell ⟨w2.heap.size, 0, none⟩ (.int .u32 6)).setCell ⟨w2.heap.size, 0, none⟩ (.int .u32 0)) w3.heap.size T Y) := Lib.hid (hN1.out.below ((Fr.refl (fun k => k = w2.heap.size) _).setCell (p := ⟨w2.heap.size, 0, none⟩) (fun _ => rfl) _) fun k hk => by omega)
    have HV7 := Lib.hid (hV6.out.fr ((Fr.refl (fun k => k = w2.heap.size) _).setCell (p := ⟨w2.heap.size, 0, none⟩) (fun _ => rfl) (.int .u32 0)) fun b hb hs => by obtain ⟨cs, h1⟩ := hV6.out.heap hb; exact h1.ne_ bm6 (by decide) hs)
    go_wp2_with fail
    refine (salive_any _).mono ?_
    rintro e w8 ⟨rfl, hn8⟩
    have bm8 := hn8.blk bm7
    have q0 : w8.cell? ⟨w2.heap.size, 0, none⟩ = some (.int .u32 0) := bm8.cell 0
    have q1 : w8.cell? ⟨w2.heap.size, 1, none⟩ = some (.int .u8 31) := bm8.cell 1
    have q2 : w8.cell? ⟨w2.heap.size, 2, none⟩ = some (.slice (some ⟨w1.heap.size, 0, none⟩) N N) := bm8.cell 2
    have HM8 := Lib.hid (HM7.out.more hn8)
    go_wp2_with fail
    refine (HTAIL.out w8 ⟨⟨0, 31, l0⟩, some ⟨w1.heap.size, 0, none⟩, N, N⟩ HM8.out (by simp [Msg.wf]) (HV7.out.new hn8).rd (.inl rfl)).mono ?_
    rintro e w9 ⟨rfl, hn9⟩
    go_wp2_with fail
    refine (HWITH.out w9 (HM8.out.more hn9)).mono ?_
    rintro e w10 ⟨A, c, rfl, hrd, hn10⟩
    go_wp2_with fail
    refine (uequal_any _ _ [5] [5] _ (hrd.alloc _) (rd_block (intE .u32) (Blk.new _ _ _) [5] rfl) (by simp) (by simp)).mono ?_
    rw [decide_eq_true rfl]
    rintro e w11 ⟨rfl, hn11⟩
    go_wp2
    go_ret
    exact ⟨rfl, (hn10.alloc _).trans hn11⟩
  · have hq0 : (r == 0) = false := by simp [hr0]
    by_cases hr1 : r = 1
    · have hq1 : (r == 1) = true := by simp [hr1]
      clear hr0 hr1
      have bm7 := bm6.set_ 1 (.int .u8 32)
      have HM7 : Hid (Made w ((w5.setCell ⟨w2.heap.size, 0, none⟩ (.int .u32 6)).setCell ⟨w2.heap.size, 1, none⟩ (.int .u8 32)) w3.heap.size T Y) := Lib.hid (hN1.out.below ((Fr.refl (fun k => k = w2.heap.size) _).setCell (p := ⟨w2.heap.size, 1, none⟩) (fun _ => rfl) _) fun k hk => by omega)
      have HV7 := Lib.hid (hV6.out.fr ((Fr.refl (fun k => k = w2.heap.size) _).setCell (p := ⟨w2.heap.size, 1, none⟩) (fun _ => rfl) (.int .u8 32)) fun b hb hs => by obtain ⟨cs, h1⟩ := hV6.out.heap hb; exact h1.ne_ bm6 (by decide) hs)
      have hw32 : IntKind.u8.wrap (31 + 1) = 32 := by decide
      go_wp2_with fail
      refine (salive_any _).mono ?_
      rintro e w8 ⟨rfl, hn8⟩
      have bm8 := hn8.blk bm7
      have q0 : w8.cell? ⟨w2.heap.size, 0, none⟩ = some (.int .u32 6) := bm8.cell 0
      have q1 : w8.cell? ⟨w2.heap.size, 1, none⟩ = some (.int .u8 32) := bm8.cell 1
      have q2 : w8.cell? ⟨w2.heap.size, 2, none⟩ = some (.slice (some ⟨w1.heap.size, 0, none⟩) N N) := bm8.cell 2
      have HM8 := Lib.hid (HM7.out.more hn8)
      go_wp2_with fail
      refine (HTAIL.out w8 ⟨⟨6, 32, l0⟩, some ⟨w1.heap.size, 0, none⟩, N, N⟩ HM8.out (by simp [Msg.wf]) (HV7.out.new hn8).rd (.inr (.inl (by show (31 : Int) < 32; omega)))).mono ?_
      rintro e w9 ⟨rfl, hn9⟩
      go_wp2_with fail
      refine (HWITH.out w9 (HM8.out.more hn9)).mono ?_
      rintro e w10 ⟨A, c, rfl, hrd, hn10⟩
      go_wp2_with fail
      refine (uequal_any _ _ [5] [5] _ (hrd.alloc _) (rd_block (intE .u32) (Blk.new _ _ _) [5] rfl) (by simp) (by simp)).mono ?_
      rw [decide_eq_true rfl]
      rintro e w11 ⟨rfl, hn11⟩
      go_wp2
      go_ret
      exact ⟨rfl, (hn10.alloc _).trans hn11⟩
    · have hq1 : (r == 1) = false := by simp [hr1]
      clear hr0 hr1
      have hs6 : (w5.setCell ⟨w2.heap.size, 0, none⟩ (.int .u32 6)).heap.size = w5.heap.size := by simp [World.setCell]
      have hO := hV6.out.alloc (.cells #[.int .u8 0] 5)
      have hs35 := hN1.out.bs
      have hl26 := bm6.lt
      have hbx : Blk ((w5.setCell ⟨w2.heap.size, 0, none⟩ (.int .u32 6)).alloc (.cells #[.int .u8 0] 5)) w5.heap.size 5 #[.int .u8 0] := by
        have := Blk.new (w5.setCell ⟨w2.heap.size, 0, none⟩ (.int .u32 6)) 5 #[.int .u8 0]
        rwa [hs6] at this
      have hsz7 : ((w5.setCell ⟨w2.heap.size, 0, none⟩ (.int .u32 6)).alloc (.cells #[.int .u8 0] 5)).heap.size = w5.heap.size + 1 := by rw [World.size_alloc, hs6]
      have hOl : Own (intE .u8) 5 w1.heap.size ((w5.setCell ⟨w2.heap.size, 0, none⟩ (.int .u32 6)).alloc (.cells #[.int .u8 0] 5)) (.slice (some ⟨w1.heap.size, 0, none⟩) N N) l0 := hO
      go_wp2_with (first
        | (at_builtin; refine wpList_push (E := intE .u8) rfl _ _ _ rfl Try.underlying32 hi hz0 hz1 hz2 rfl hOl rfl (0 : Int) w5.heap.size hbx 1 rfl (by unfold maxLen; omega) (by omega) (by omega) ?_; intro v7 w7 hv7 hf7 hl7
           obtain ⟨A7, n7, c7, rfl⟩ := own_shape hv7
           have bm7 := hf7.blk (bm6.alloc _) (fun hs => by obtain ⟨cs, h1⟩ := hV6.out.heap hs; exact h1.ne_ bm6 (by decide) rfl)
           have f72 : w7.frozen? ⟨w2.heap.size, 2, none⟩ = false := bm7.frozen 2
           have m72 : w7.cell? ⟨w2.heap.size, 2, none⟩ = some (.slice (some ⟨w1.heap.size, 0, none⟩) N N) := bm7.cell 2)
        | fail)
      have hs12 := hs2
      have HM7 : Hid (Made w (w7.setCell ⟨w2.heap.size, 2, none⟩ (.slice A7 n7 c7)) w3.heap.size T Y) := Lib.hid (hN1.out.below (S := fun k => k = w1.heap.size ∨ k = w2.heap.size) (Fr.setCell (Fr.trans ((Fr.refl _ _).alloc _) (fr_or hf7 fun k hk => .inl (by simp [Value.ownBlock] at hk; exact hk.symm))) (fun _ => .inr rfl) _) fun k hk => by rcases hk with rfl | rfl <;> omega)
      have hn7l : n7 = (l0 ++ [(0 : Int)]).length := by obtain ⟨_, _, he, _⟩ := hv7.form; injection he
      subst hn7l
      have HV7 := Lib.hid (hv7.fr ((Fr.refl (fun k => k = w2.heap.size) _).setCell (p := ⟨w2.heap.size, 2, none⟩) (fun _ => rfl) (.slice A7 (l0 ++ [(0 : Int)]).length c7)) fun b hb hs => by obtain ⟨cs, h1⟩ := hv7.heap hb; exact h1.ne_ bm7 (by decide) hs)
      have bm8' := bm7.set_ 2 (.slice A7 (l0 ++ [(0 : Int)]).length c7)
      refine (salive_any _).mono ?_
      rintro e w8 ⟨rfl, hn8⟩
      have bm8 := hn8.blk bm8'
      have q0 : w8.cell? ⟨w2.heap.size, 0, none⟩ = some (.int .u32 6) := bm8.cell 0
      have q1 : w8.cell? ⟨w2.heap.size, 1, none⟩ = some (.int .u8 31) := bm8.cell 1
      have q2 : w8.cell? ⟨w2.heap.size, 2, none⟩ = some (.slice A7 (l0 ++ [(0 : Int)]).length c7) := bm8.cell 2
      have HM8 := Lib.hid (HM7.out.more hn8)
      have hlen7 : 65536 < (l0 ++ [(0 : Int)]).length := by rw [List.length_append, hl0n]; simp; omega
      obtain ⟨l7, hl7e⟩ : ∃ l7, l7 = l0 ++ [(0 : Int)] := ⟨_, rfl⟩
      rw [← hl7e] at HV7 q2 hlen7 bm8 bm8' hn8 ⊢
      clear hv7 hl7e HM7 m72 bm8'
      go_wp2_with fail
      refine (HTAIL.out w8 ⟨⟨6, 31, l7⟩, A7, l7.length, c7⟩ HM8.out (by simp [Msg.wf]) (HV7.out.new hn8).rd (.inr (.inr hlen7))).mono ?_
      rintro e w9 ⟨rfl, hn9⟩
      go_wp2_with fail
      refine (HWITH.out w9 (HM8.out.more hn9)).mono ?_
      rintro e w10 ⟨A, c, rfl, hrd, hn10⟩
      go_wp2_with fail
      refine (uequal_any _ _ [5] [5] _ (hrd.alloc _) (rd_block (intE .u32) (Blk.new _ _ _) [5] rfl) (by simp) (by simp)).mono ?_
      rw [decide_eq_true rfl]
      rintro e w11 ⟨rfl, hn11⟩
      go_wp2
      go_ret
      exact ⟨rfl, (hn10.alloc _).trans hn11⟩

end Go.Proofs.Ytjnaihhkbbeaoaa
