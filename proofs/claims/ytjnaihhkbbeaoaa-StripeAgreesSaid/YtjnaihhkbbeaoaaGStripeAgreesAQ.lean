/- Part 17 of the proof of StripeAgrees: StKeeps, StAgrees. -/
import Derived.Test.YtjnaihhkbbeaoaaGStripeAgreesAP

section
/- StripeKeeps: the walk. -/
namespace Go.Proofs.Ytjnaihhkbbeaoaa
open Go.RowKit

theorem TBX.rebase {base base' : Nat} {w : World} {T : Tb} (h : TBX base w T []) : TBX base' w T [] := ⟨h.hd, h.n0, h.n1, h.nc, h.pt, h.part, h.map, by simp, h.nd, h.ok, h.qinj, h.minj, h.rtb, h.rpb, h.rq, h.rm, h.top⟩

theorem TBX.fr2 {base : Nat} {w w' : World} {T : Tb} {X : List MB} {S : Nat → Prop} (h : TBX base w T X) (hf : Fr S w w') (hS : ∀ k, S k → ¬ T.foot k) (hB : ∀ x ∈ X, ∀ b, x.bv.ownBlock = some b → ¬ S b) : TBX base w' T X := by
  obtain ⟨cs, hp, hpi⟩ := h.pt
  exact ⟨hf.blk h.hd fun hs => hS _ hs h.rtb, h.n0, h.n1, h.nc, ⟨cs, hf.blk hp fun hs => hS _ hs h.rpb, hpi⟩, fun i hi => hf.blk (h.part i hi) fun hs => hS _ hs (h.rq i hi), fun i hi => (h.map i hi).fr hf fun hs => hS _ hs (h.rm i hi),
    fun x hx => (h.body x hx).fr hf (hB x hx), h.nd, h.ok, h.qinj, h.minj, h.rtb, h.rpb, h.rq, h.rm, Nat.le_trans h.top hf.size⟩

theorem of_one {X : List MB} {m : Msg} (h : X.map MB.m = [m]) : ∃ x, X = [x] ∧ x.m = m := by
  match X, h with
  | [x], h => exact ⟨x, rfl, by simpa using h⟩

set_option maxRecDepth 100000 in
set_option maxHeartbeats 6400000 in
theorem keeps_law (x : MB) (w : World) (hx : x.inn w) :
    Calls Try.prog 5 #[x.val] w fun e w' => e = .returned (.bool true) ∧ New w w' := by
  obtain ⟨i0, hi, hz0, hz1, hz2⟩ := info_parts u8_info
  obtain ⟨hwf, hb, _⟩ := hx
  have hne := MB.len_eq hb
  obtain ⟨⟨uid, fl, body⟩, A, n, c⟩ := x
  dsimp only at hne
  subst hne
  have HB := Lib.hid hb
  have HWF := Lib.hid hwf
  simp only [MB.val]
  clear hb hwf
  obtain ⟨wq, hwq⟩ : ∃ wq, wq = w.alloc (.cells #[.int .u32 uid, .int .u8 fl, .slice A body.length c] 34) := ⟨_, rfl⟩
  have hn1 : New w wq := by rw [hwq]; exact (New.refl w).alloc _
  have bg : Blk wq w.heap.size 34 #[.int .u32 uid, .int .u8 fl, .slice A body.length c] := by rw [hwq]; exact Blk.new _ _ _
  have hqs : wq.heap.size = w.heap.size + 1 := by rw [hwq]; simp
  have HWQ := Lib.hid hwq
  clear hwq
  by_cases hc : 300 < body.length ∨ uid = 0 ∨ 31 < fl
  · rcases Nat.lt_or_ge 300 body.length with hl | hl
    · have hd : decide ((300 : Int) < body.length) = true := decide_eq_true (by omega)
      clear hc
      go_enter Try.func5, Try.ntmps5
      go_wp2_with fail
      refine (salive_any _).mono ?_
      rintro e w1 ⟨rfl, hn2⟩
      go_wp2
      go_ret
      exact ⟨rfl, hn1.trans (HWQ.out ▸ hn2)⟩
    · have hd : decide ((300 : Int) < body.length) = false := decide_eq_false (by omega)
      by_cases h0 : uid = 0
      · have hu : (uid == 0) = true := by simp [h0]
        clear hc h0
        go_enter Try.func5, Try.ntmps5
        go_wp2_with fail
        refine (salive_any _).mono ?_
        rintro e w1 ⟨rfl, hn2⟩
        go_wp2
        go_ret
        exact ⟨rfl, hn1.trans (HWQ.out ▸ hn2)⟩
      · have hu : (uid == 0) = false := by simp [h0]
        have hf : decide (31 < fl) = true := decide_eq_true (by omega)
        clear hc h0
        go_enter Try.func5, Try.ntmps5
        go_wp2_with fail
        refine (salive_any _).mono ?_
        rintro e w1 ⟨rfl, hn2⟩
        go_wp2
        go_ret
        exact ⟨rfl, hn1.trans (HWQ.out ▸ hn2)⟩
  have hl : body.length ≤ 300 := by omega
  have hd : decide ((300 : Int) < body.length) = false := decide_eq_false (by omega)
  have hu : (uid == 0) = false := by simp; omega
  have hf : decide (31 < fl) = false := decide_eq_false (by omega)
  have HPC : Hid (putM (([] : List MB).map MB.m) ⟨uid, fl, body⟩ = [⟨uid, fl, body⟩]) := by
    have : putC (([] : List MB).map MB.m) ⟨uid, fl, body⟩ = 0 := by
      unfold putC
      rw [if_neg (by simp; omega)]
      rfl
    show putM _ _ = _
    unfold putM
    rw [this]
    rfl
  clear hc
  go_enter Try.func5, Try.ntmps5
  go_wp2_with fail
  rw [← HWQ.out]
  refine (tnew_any 3 (by omega) (by omega) _).mono ?_
  rintro e w1 ⟨T, rfl, hTn, hlo, hhi, hT, hn2⟩
  have b1 := hn2.blk bg
  have c10 : w1.cell? ⟨w.heap.size, 0, none⟩ = some (.int .u32 uid) := b1.cell 0
  have c11 : w1.cell? ⟨w.heap.size, 1, none⟩ = some (.int .u8 fl) := b1.cell 1
  have c12 : w1.cell? ⟨w.heap.size, 2, none⟩ = some (.slice A body.length c) := b1.cell 2
  have hs1 := b1.lt
  have hb1 : Rd (intE .u8) w1 (.slice A body.length c) body := HB.out.new (hn1.trans hn2)
  have HB1 := Lib.hid hb1
  have hO1 := Own.empty1 (intE .u8) 5 w1.heap.size w1 (.cells #[.int .u32 uid, .int .u8 fl, .slice A body.length c] 34) (Nat.le_refl _)
  have hsz2 : ((w1.alloc (.cells #[.int .u32 uid, .int .u8 fl, .slice A body.length c] 34)).alloc (.cells #[] 5)).heap.size = w1.heap.size + 2 := by simp
  clear hb1
  go_wp2_with (first
    | (at_builtin; refine wpList_append (E := intE .u8) (l := []) rfl _ _ _ rfl Try.underlying32 hi hz0 hz1 hz2 rfl hO1 rfl ((HB1.out.alloc _).alloc _) rfl (by unfold maxLen; simp; omega) (by simp; omega) (by omega) ?_; intro v2 w2 hv2 hf2 hl2
       rw [List.nil_append] at hv2
       have hn12 : New w1 w2 := New.append (((New.refl w1).alloc (.cells #[.int .u32 uid, .int .u8 fl, .slice A body.length c] 34)).alloc _) hO1 hf2
       obtain ⟨A2, n2, c2, rfl⟩ := own_shape hv2
       have bx2 : Blk w2 w1.heap.size 34 #[.int .u32 uid, .int .u8 fl, .slice A body.length c] := (fr_or hf2 fun _ h => h).blk ((Blk.new w1 34 _).alloc _) (by simp [Value.ownBlock])
       have x0 : w2.cell? ⟨w1.heap.size, 0, none⟩ = some (.int .u32 uid) := bx2.cell 0
       have x1 : w2.cell? ⟨w1.heap.size, 1, none⟩ = some (.int .u8 fl) := bx2.cell 1
       have x2 : w2.cell? ⟨w1.heap.size, 2, none⟩ = some (.slice A body.length c) := bx2.cell 2
       have z2 : w2.frozen? ⟨w1.heap.size, 2, none⟩ = false := bx2.frozen 2)
    | fail)
  obtain ⟨w3, hw3⟩ : ∃ w3, w3 = w2.setCell ⟨w1.heap.size, 2, none⟩ (.slice A2 n2 c2) := ⟨_, rfl⟩
  have hn13 : New w1 w3 := by rw [hw3]; exact New.two hn12 ((Fr.refl (fun k => k = w1.heap.size) _).setCell (p := ⟨w1.heap.size, 2, none⟩) (fun _ => rfl) _) (fun i hi => by omega)
  have bx3 : Blk w3 w1.heap.size 34 #[.int .u32 uid, .int .u8 fl, .slice A2 n2 c2] := by rw [hw3]; exact bx2.set_ 2 _
  have hv3 : Own (intE .u8) 5 w1.heap.size w3 (.slice A2 n2 c2) body := by
    rw [hw3]
    refine hv2.fr (S := fun k => k = w1.heap.size) ((Fr.refl (fun k => k = w1.heap.size) _).setCell (p := ⟨w1.heap.size, 2, none⟩) (fun _ => rfl) _) fun b hb hs => ?_
    obtain ⟨cs, h1⟩ := hv2.heap hb
    exact h1.ne_ bx2 (by decide) hs
  have hn2l : n2 = body.length := by obtain ⟨_, _, he, _⟩ := hv2.form; injection he
  subst hn2l
  rw [← hw3]
  have b3 := hn13.blk b1
  have hT3 : TBX w3.heap.size w3 T [] := (hT.new hn13).rebase
  have hs3 := hn13.size
  clear hw3 hf2 hl2 bx2 x0 x1 x2 z2 hv2 hn12 hO1 hT c10 c11 c12 hsz2
  refine (tput_any hT3 (Nat.le_refl _) (by simp) ⟨⟨uid, fl, body⟩, A2, body.length, c2⟩ HWF.out hv3.rd).mono ?_
  rw [HPC.out]
  obtain ⟨pc, hpc⟩ : ∃ pc, putC (([] : List MB).map MB.m) ⟨uid, fl, body⟩ = pc := ⟨_, rfl⟩
  rw [hpc]
  rintro e w4 ⟨rfl, X, hX, _, hT4, hf4⟩
  obtain ⟨y, rfl, hym⟩ := of_one hX
  have b4 : Blk w4 w.heap.size 34 #[.int .u32 uid, .int .u8 fl, .slice A body.length c] := hf4.blk b3 (fun hs => by have := hs.1; omega)
  have bx4 : Blk w4 w1.heap.size 34 #[.int .u32 uid, .int .u8 fl, .slice A2 body.length c2] := hf4.blk bx3 (fun hs => by have := hs.2; omega)
  have hv4 : Own (intE .u8) 5 w1.heap.size w4 (.slice A2 body.length c2) body := hv3.fr hf4 fun b hb hs => by have h1 := (hv3.block hb).1; have h2 := hs.2; omega
  have hrow := fun b hb => hv3.block (b := b) hb
  have HROW := Lib.hid hrow
  have HN4 := Lib.hid (New.two ((hn1.trans hn2).trans hn13) hf4 fun i hi => by have := hi.1; omega)
  have hs4 := hf4.size
  have HT4 := Lib.hid hT4
  have HV4 := Lib.hid hv4
  have HYM := Lib.hid hym
  have cx4 : w4.cell? ⟨w1.heap.size, 2, none⟩ = some (.slice A2 body.length c2) := bx4.cell 2
  clear hX hpc hT3 hf4 hv3 hrow hT4 hym bx3 b3 hn13 hv4
  go_wp2
  go_loopw [41] (fun vi wr => ∃ (k : Nat) (l' : List Int), vi = .int .i64 k ∧ k ≤ body.length ∧ l'.length = body.length ∧ Own (intE .u8) 5 w1.heap.size wr (.slice A2 body.length c2) l' ∧ Fr (fun b => (Value.slice A2 body.length c2).ownBlock = some b) w4 wr) (fun vi _ => body.length - (intOf vi).toNat)
  case atStart => exact ⟨0, body, rfl, Nat.zero_le _, rfl, HV4.out, Fr.refl _ _⟩
  case round =>
    obtain ⟨k, l', rfl, hk, hl', hown, hfr⟩ := hrel
    have bxr := hfr.blk bx4 (fun hs => by obtain ⟨cs, h1⟩ := HV4.out.heap hs; exact h1.ne_ bx4 (by decide) rfl)
    have bmr := hfr.blk b4 (fun hs => by obtain ⟨cs, h1⟩ := HV4.out.heap hs; exact h1.ne_ b4 (by decide) rfl)
    by_cases hlt : k < body.length
    · have hd2 : decide ((k : Int) < body.length) = true := decide_eq_true (by omega)
      have hkI : (k : Int) < body.length := by omega
      have hkw : IntKind.i64.wrap ((k : Int) + 1) = (k : Int) + 1 := IntWalk.i64_in _ (by omega)
      obtain ⟨g, rfl⟩ := hown.some_ (by omega)
      obtain ⟨y0, hy0⟩ : ∃ y0, l'[k]? = some y0 := ⟨_, List.getElem?_eq_getElem (by omega)⟩
      have cx : wr.cell? ⟨w1.heap.size, 2, none⟩ = some (.slice (some ⟨g, 0, none⟩) body.length c2) := bxr.cell 2
      have ck : wr.cell? ⟨g, k, none⟩ = some (.int .u8 y0) := hown.icell hy0
      have zk := hown.ifrozen k
      obtain ⟨y1, hy1⟩ : ∃ y1, IntKind.u8.wrap (y0 + 1) = y1 := ⟨_, rfl⟩
      have hnext := hown.istored k y1
      have HNX := Lib.hid hnext
      have HFR := Lib.hid ((hfr.setCell (p := ⟨g, k, none⟩) (fun _ => rfl) (.int .u8 y1)))
      clear hy0 hnext hown hfr
      go_wp2
      go_roundw
      case rel => exact ⟨k + 1, l'.set k y1, by go_num, by omega, by simp; omega, HNX.out, HFR.out⟩
      case measure => simp [intOf]; omega
    · have hd2 : decide ((k : Int) < body.length) = false := decide_eq_false (by omega)
      obtain ⟨wa, rfl⟩ : ∃ wa : World, wa = wr := ⟨_, rfl⟩
      have HTR := Lib.hid (HT4.out.fr2 hfr (fun b hb hft => by have h1 := (HROW.out b hb).1; have h2 := hft.2; omega) (fun x hx b hb hs => by have h1 := ((HT4.out.body x hx).block hb).1; have h2 := (HROW.out b hs).2; omega))
      have c0 : wa.cell? ⟨w.heap.size, 0, none⟩ = some (.int .u32 uid) := bmr.cell 0
      have HNR := Lib.hid (New.two HN4.out hfr fun b hb => by have h1 := (HROW.out b hb).1; omega)
      have hsr := hfr.size
      clear hown hfr
      have hwf := HWF.out
      have hu0 := hwf.1.1
      have hu1 := hwf.1.2
      clear hwf
      simp only at hu0 hu1
      have hfx : findX [y] uid = some y := by
        have h1 : y.m.uid = uid := by rw [HYM.out]
        unfold findX
        simp [h1]
      go_wp2_with fail
      have hg6 := tget_any HTR.out uid hu0 hu1
      rw [hfx] at hg6
      simp only [Option.getD_some, Option.isSome_some] at hg6
      refine hg6.mono ?_
      rintro e w6 ⟨⟨⟨uid6, fl6, body6⟩, A6, n6, c6⟩, rfl, hy6, ho6, hT6, hf6⟩
      simp only [MB.val, MB.bv] at hy6 ho6 ⊢
      have hn6l : n6 = body6.length := by obtain ⟨_, _, he, _⟩ := ho6.form; injection he
      subst hn6l
      have bm6 := hf6.blk bmr (fun hs => by have := hs.1; omega)
      have hs6 := hf6.size
      have hl6 : body6.length ≤ 300 := by rw [HYM.out] at hy6; injection hy6 with _ _ e3; rw [e3]; exact hl
      obtain ⟨w7, hw7⟩ : ∃ w7, w7 = w6.alloc (.cells #[.int .u32 uid6, .int .u8 fl6, .slice A6 body6.length c6] 34) := ⟨_, rfl⟩
      have hn67 : New w6 w7 := by rw [hw7]; exact (New.refl _).alloc _
      have by7 : Blk w7 w6.heap.size 34 #[.int .u32 uid6, .int .u8 fl6, .slice A6 body6.length c6] := by rw [hw7]; exact Blk.new _ _ _
      have HO7 := Lib.hid (ho6.new hn67)
      have HT7 := Lib.hid (hT6.new hn67)
      have bm7 := hn67.blk bm6
      have hrow6 := fun b hb => ho6.block (b := b) hb
      have HROW6 := Lib.hid hrow6
      have HN7 := Lib.hid (New.two HNR.out (Fr.trans' hf6 hn67 fun _ _ h => h.elim) fun i hi => by have := hi.1; omega)
      have cy7 : w7.cell? ⟨w6.heap.size, 2, none⟩ = some (.slice A6 body6.length c6) := by7.cell 2
      have HW7 := Lib.hid hw7
      have HY6 := Lib.hid hy6
      have hs7 := hn67.size
      clear hw7 hn67 hrow6 ho6 hT6 hf6 hg6 bm6 c0 hy6
      go_wp2
      rw [← HW7.out]
      go_loopw [62] (fun vi w' => ∃ (k : Nat) (l' : List Int), vi = .int .i64 k ∧ k ≤ body6.length ∧ l'.length = body6.length ∧ Own (intE .u8) 5 wa.heap.size w' (.slice A6 body6.length c6) l' ∧ Fr (fun b => (Value.slice A6 body6.length c6).ownBlock = some b) w7 w') (fun vi _ => body6.length - (intOf vi).toNat)
      case atStart => exact ⟨0, body6, rfl, Nat.zero_le _, rfl, HO7.out, Fr.refl _ _⟩
      case round =>
        obtain ⟨k2, l2, rfl, hk2, hl2', hown, hfr⟩ := hrel
        have byr := hfr.blk by7 (fun hs => by obtain ⟨cs, h1⟩ := HO7.out.heap hs; exact h1.ne_ by7 (by decide) rfl)
        have bmr2 := hfr.blk bm7 (fun hs => by obtain ⟨cs, h1⟩ := HO7.out.heap hs; exact h1.ne_ bm7 (by decide) rfl)
        by_cases hlt : k2 < body6.length
        · have hd2 : decide ((k2 : Int) < body6.length) = true := decide_eq_true (by omega)
          have hkI : (k2 : Int) < body6.length := by omega
          have hkw : IntKind.i64.wrap ((k2 : Int) + 1) = (k2 : Int) + 1 := IntWalk.i64_in _ (by omega)
          obtain ⟨g, rfl⟩ := hown.some_ (by omega)
          obtain ⟨y0, hy0⟩ : ∃ y0, l2[k2]? = some y0 := ⟨_, List.getElem?_eq_getElem (by omega)⟩
          have cx : wr.cell? ⟨w6.heap.size, 2, none⟩ = some (.slice (some ⟨g, 0, none⟩) body6.length c6) := byr.cell 2
          have ck : wr.cell? ⟨g, k2, none⟩ = some (.int .u8 y0) := hown.icell hy0
          have zk := hown.ifrozen k2
          obtain ⟨y1, hy1⟩ : ∃ y1, IntKind.u8.wrap (y0 + 1) = y1 := ⟨_, rfl⟩
          have hnext := hown.istored k2 y1
          have HNX := Lib.hid hnext
          have HFR := Lib.hid ((hfr.setCell (p := ⟨g, k2, none⟩) (fun _ => rfl) (.int .u8 y1)))
          clear hy0 hnext hown hfr
          go_wp2
          go_roundw
          case rel => exact ⟨k2 + 1, l2.set k2 y1, by go_num, by omega, by simp; omega, HNX.out, HFR.out⟩
          case measure => simp [intOf]; omega
        · have hd2 : decide ((k2 : Int) < body6.length) = false := decide_eq_false (by omega)
          have htop := HTR.out.top
          have HT8 := Lib.hid (HT7.out.fr2 hfr (fun b hb hft => by have h1 := (HROW6.out b hb).1; have h2 := hft.2; omega) (fun x hx b hb hs => by have h1 := ((HTR.out.body x hx).block hb).2; have h2 := (HROW6.out b hs).1; omega))
          have c0 : wr.cell? ⟨w.heap.size, 0, none⟩ = some (.int .u32 uid) := bmr2.cell 0
          have HNR8 := Lib.hid (New.two HN7.out hfr fun b hb => by have h1 := (HROW6.out b hb).1; have := HNR.out.size; omega)
          clear hown hfr
          have hg8 := tget_any HT8.out uid hu0 hu1
          rw [hfx] at hg8
          simp only [Option.getD_some, Option.isSome_some] at hg8
          have HG8 := Lib.hid hg8
          clear hg8
          go_wp2_with fail
          refine HG8.out.mono ?_
          rintro e w9 ⟨⟨⟨uid9, fl9, body9⟩, A9, n9, c9⟩, rfl, hy9, ho9, hT9, hf9⟩
          simp only [MB.val, MB.bv] at hy9 ho9 ⊢
          have bm9 := hf9.blk bmr2 (fun hs => by have := hs.1; omega)
          have HN9 := Lib.hid (New.two HNR8.out hf9 fun b hb => by have := hb.1; omega)
          have hz9 : (⟨uid9, fl9, body9⟩ : Msg) = ⟨uid, fl, body⟩ := hy9.trans HYM.out
          injection hz9 with e1 e2 e3
          subst e1 e2 e3
          have HO9 := Lib.hid ho9.rd
          clear hy9 ho9 hT9 hf9 HG8
          go_wp2_with fail
          refine (salive_any _).mono ?_
          rintro e w10 ⟨rfl, hn10⟩
          have bz10 := hn10.blk (Blk.new w9 34 #[.int .u32 uid9, .int .u8 fl9, .slice A9 n9 c9])
          have bm10 := hn10.blk (bm9.alloc _)
          have z0 : w10.cell? ⟨w9.heap.size, 0, none⟩ = some (.int .u32 uid9) := bz10.cell 0
          have z1 : w10.cell? ⟨w9.heap.size, 1, none⟩ = some (.int .u8 fl9) := bz10.cell 1
          have z2 : w10.cell? ⟨w9.heap.size, 2, none⟩ = some (.slice A9 n9 c9) := bz10.cell 2
          have m0 : w10.cell? ⟨w.heap.size, 0, none⟩ = some (.int .u32 uid9) := bm10.cell 0
          have m1 : w10.cell? ⟨w.heap.size, 1, none⟩ = some (.int .u8 fl9) := bm10.cell 1
          have m2 : w10.cell? ⟨w.heap.size, 2, none⟩ = some (.slice A body9.length c) := bm10.cell 2
          have HN10 := Lib.hid ((HN9.out.alloc (.cells #[.int .u32 uid9, .int .u8 fl9, .slice A9 n9 c9] 34)).trans hn10)
          have HZ := Lib.hid ((HO9.out.alloc (.cells #[.int .u32 uid9, .int .u8 fl9, .slice A9 n9 c9] 34)).new hn10)
          clear hn10
          go_wp2_with fail
          refine (rsame_any ⟨⟨uid9, fl9, body9⟩, A9, n9, c9⟩ ⟨⟨uid9, fl9, body9⟩, A, body9.length, c⟩ _ HZ.out (HB.out.new HN10.out) rfl).mono ?_
          rintro e w11 ⟨rfl, hn11⟩
          go_wp2
          go_ret
          exact ⟨rfl, HN10.out.trans hn11⟩

end Go.Proofs.Ytjnaihhkbbeaoaa
end

section
/- StripeAgrees: the walk. -/
namespace Go.Proofs.Ytjnaihhkbbeaoaa
open Go.RowKit

theorem Made.apart {w wr w' : World} {base : Nat} {T : Tb} {X : List MB} {S : Nat → Prop} (h : Made w wr base T X) (hf : Fr S wr w') (hS : ∀ k, S k → w.heap.size ≤ k ∧ k < base ∧ ¬ T.foot k) : Made w w' base T X :=
  ⟨h.tbl.fr hf (fun k hk => (hS k hk).2.2) (fun v l hv b hb hs => by have h1 := (hS b hs).2.1; have h2 := (hv.block hb).1; omega), h.lo, h.hi, Nat.le_trans h.bs hf.size, New.two h.new hf fun k hk => (hS k hk).1⟩
theorem Made.base {w wr : World} {base : Nat} {T : Tb} (h : Made w wr base T []) : Made w wr wr.heap.size T [] := ⟨h.tbl.rebase, h.lo, Nat.le_trans h.hi h.bs, Nat.le_refl _, h.new⟩

theorem sum_ok {l : List Int} (h : ∀ x ∈ l, 0 ≤ x) (j : Nat) : 0 ≤ (l.take j).sum ∧ (l.take j).sum ≤ l.sum := by
  induction l generalizing j with
  | nil => simp
  | cons x l ih =>
    have hx := h x List.mem_cons_self
    have ih := ih fun y hy => h y (List.mem_cons_of_mem _ hy)
    cases j with
    | zero =>
      have := ih l.length
      rw [List.take_length] at this
      simp only [List.take_zero, List.sum_nil, List.sum_cons]
      omega
    | succ j =>
      have := ih j
      simp only [List.take_succ_cons, List.sum_cons]
      omega

theorem split_len {n k : Nat} (M : List Msg) : (M.filter fun m => decide (m.uid % (n : Int) < ((k + 1 : Nat) : Int))).length = (M.filter fun m => decide (m.uid % (n : Int) < (k : Int))).length + (M.filter fun m => decide (m.uid % (n : Int) = (k : Int))).length := by
  induction M with
  | nil => rfl
  | cons m M ih =>
    simp only [List.filter_cons]
    rcases Int.lt_trichotomy (m.uid % (n : Int)) (k : Int) with h | h | h
    · rw [if_pos (by simp; omega), if_pos (by simpa using h), if_neg (by simp; omega)]
      simp only [List.length_cons]
      omega
    · rw [if_pos (by simp; omega), if_neg (by simp; omega), if_pos (by simpa using h)]
      simp only [List.length_cons]
      omega
    · rw [if_neg (by simp; omega), if_neg (by simp; omega), if_neg (by simp; omega)]
      exact ih

theorem sizes_sum_to (n k : Nat) (M : List Msg) (h0 : 0 < n) : ((List.range k).map fun i => ((strM n i M).length : Int)).sum = ((M.filter fun m => decide (m.uid % (n : Int) < (k : Int))).length : Int) := by
  induction k with
  | zero =>
    have : (M.filter fun m => decide (m.uid % (n : Int) < ((0 : Nat) : Int))) = [] := by
      rw [List.filter_eq_nil_iff]
      intro m _
      have := Int.emod_nonneg m.uid (b := (n : Int)) (by omega)
      simp
      omega
    rw [this]
    rfl
  | succ k ih =>
    rw [List.range_succ, List.map_append, List.sum_append, ih, split_len]
    simp only [List.map_cons, List.map_nil, List.sum_cons, List.sum_nil, strM]
    omega
theorem sizes_sum (n : Nat) (M : List Msg) (h0 : 0 < n) : (sizesM n M).sum = (M.length : Int) := by
  unfold sizesM
  rw [sizes_sum_to n n M h0]
  have : (M.filter fun m => decide (m.uid % (n : Int) < (n : Int))) = M := by
    rw [List.filter_eq_self]
    intro m _
    have := Int.emod_lt_of_pos m.uid (b := (n : Int)) (by omega)
    simpa using this
  rw [this]
theorem sizes_pos (n : Nat) (M : List Msg) : ∀ x ∈ sizesM n M, 0 ≤ x := by
  intro x hx
  unfold sizesM at hx
  obtain ⟨i, _, rfl⟩ := List.mem_map.1 hx
  omega

/-- Two tables that are apart, and a list that holds what each holds. -/
structure P2 (w wr : World) (base : Nat) (T1 T2 : Tb) (X1 X2 : List MB) (v : Value) (Y : List MB) : Prop where
  a : PS w wr base T1 X1 v Y
  b : PS w wr base T2 X2 v Y
  ap : T1.hi ≤ T2.lo
  n : New w wr

theorem P2.more {w wr w' : World} {base : Nat} {T1 T2 : Tb} {X1 X2 : List MB} {v : Value} {Y : List MB} (h : P2 w wr base T1 T2 X1 X2 v Y) (hn : New wr w') : P2 w w' base T1 T2 X1 X2 v Y := ⟨h.a.more hn, h.b.more hn, h.ap, h.n.trans hn⟩
theorem P2.foot1 {w wr : World} {base : Nat} {T1 T2 : Tb} {X1 X2 : List MB} {v : Value} {Y : List MB} (h : P2 w wr base T1 T2 X1 X2 v Y) : ∀ k, T1.foot k → w.heap.size ≤ k ∧ k < base ∧ ¬ T2.foot k := by
  intro k hk
  have h1 := h.a.made.lo
  have h2 := h.a.made.hi
  have h3 := h.ap
  have h4 := hk.1
  have h5 := hk.2
  exact ⟨by omega, by omega, fun h6 => by have := h6.1; omega⟩
theorem P2.foot2 {w wr : World} {base : Nat} {T1 T2 : Tb} {X1 X2 : List MB} {v : Value} {Y : List MB} (h : P2 w wr base T1 T2 X1 X2 v Y) : ∀ k, T2.foot k → w.heap.size ≤ k ∧ k < base ∧ ¬ T1.foot k := by
  intro k hk
  have h1 := h.b.made.lo
  have h2 := h.b.made.hi
  have h3 := h.ap
  have h4 := hk.1
  have h5 := hk.2
  exact ⟨by omega, by omega, fun h6 => by have := h6.2; omega⟩
theorem P2.turn1 {w wr w' : World} {base : Nat} {T1 T2 : Tb} {X1 X2 : List MB} {v : Value} {Y : List MB} (h : P2 w wr base T1 T2 X1 X2 v Y) (ht : TBX base w' T1 X1) (hf : Fr T1.foot wr w') : P2 w w' base T1 T2 X1 X2 v Y :=
  have hm := h.a.made.turn ht hf
  ⟨⟨hm, h.a.row h.a.own hf, h.a.rd, h.a.eq⟩, ⟨h.b.made.apart hf h.foot1, h.a.row h.a.own hf, h.b.rd, h.b.eq⟩, h.ap, hm.new⟩
theorem P2.turn2 {w wr w' : World} {base : Nat} {T1 T2 : Tb} {X1 X2 : List MB} {v : Value} {Y : List MB} (h : P2 w wr base T1 T2 X1 X2 v Y) (ht : TBX base w' T2 X2) (hf : Fr T2.foot wr w') : P2 w w' base T1 T2 X1 X2 v Y :=
  have hm := h.b.made.turn ht hf
  ⟨⟨h.a.made.apart hf h.foot2, h.b.row h.b.own hf, h.a.rd, h.a.eq⟩, ⟨hm, h.b.row h.b.own hf, h.b.rd, h.b.eq⟩, h.ap, hm.new⟩

set_option maxRecDepth 100000 in
set_option maxHeartbeats 800000 in
theorem agrees_few (a b : Int) (x : Value × List SOp) (w : World) (hx : Rd sopE w x.1 x.2 ∧ (∀ y ∈ x.2, y.inn w) ∧ x.2.length ≤ maxLen) (hq : fewP x.2 = false) :
    Calls Try.prog 6 #[.int .u8 a, .int .u8 b, x.1] w fun e w' => e = .returned (.bool true) ∧ New w w' := by
  obtain ⟨v, l⟩ := x
  obtain ⟨hrd, hin, hlm⟩ := hx
  dsimp only at hrd hin hlm ⊢
  have hf := few_any hrd hin hlm
  dsimp only at hq
  rw [hq] at hf
  have HF := Lib.hid hf
  obtain ⟨A, c, rfl, _⟩ := hrd
  clear hf hin hq
  go_enter Try.func6, Try.ntmps6
  go_wp2_with fail
  refine HF.out.mono ?_
  rintro e w1 ⟨rfl, hn1⟩
  go_wp2_with fail
  refine (salive_any _).mono ?_
  rintro e w2 ⟨rfl, hn2⟩
  go_wp2
  go_ret
  exact ⟨rfl, hn1.trans hn2⟩

set_option maxRecDepth 100000 in
set_option maxHeartbeats 6400000 in
theorem agrees_main (a b : Int) (x : Value × List SOp) (w : World) (ha0 : 0 ≤ a) (ha1 : a ≤ 255) (hb0 : 0 ≤ b) (hb1 : b ≤ 255) (hx : Rd sopE w x.1 x.2 ∧ (∀ y ∈ x.2, y.inn w) ∧ x.2.length ≤ maxLen) (hq : fewP x.2 = true) :
    Calls Try.prog 6 #[.int .u8 a, .int .u8 b, x.1] w fun e w' => e = .returned (.bool true) ∧ New w w' := by
  obtain ⟨v, l⟩ := x
  obtain ⟨hrd, hin, hlm⟩ := hx
  dsimp only at hrd hin hlm ⊢
  have hf := few_any hrd hin hlm
  dsimp only at hq
  have hl60 : l.length ≤ 60 := by
    unfold fewP at hq
    rw [Bool.and_eq_true] at hq
    simpa using hq.2
  rw [hq] at hf
  have HF := Lib.hid hf
  obtain ⟨A, c, rfl, hlc, hcells⟩ := hrd
  have HC := Lib.hid hcells
  have HIN := Lib.hid hin
  have hca : IntKind.i64.wrap a = a := IntWalk.i64_in _ (by omega)
  have hcb : IntKind.i64.wrap b = b := IntWalk.i64_in _ (by omega)
  have hma : Int.tmod a 16 = a % 16 := Int.tmod_eq_emod_of_nonneg ha0
  have hmb : Int.tmod b 16 = b % 16 := Int.tmod_eq_emod_of_nonneg hb0
  obtain ⟨n, hn⟩ : ∃ n : Nat, 1 + a % 16 = n := ⟨(1 + a % 16).toNat, by omega⟩
  obtain ⟨m, hm⟩ : ∃ m : Nat, 1 + b % 16 = m := ⟨(1 + b % 16).toNat, by omega⟩
  have hma16 : IntKind.i64.wrap (a % 16) = a % 16 := IntWalk.i64_in _ (by omega)
  have hmb16 : IntKind.i64.wrap (b % 16) = b % 16 := IntWalk.i64_in _ (by omega)
  have hadda : IntKind.i64.wrap (1 + a % 16) = n := by rw [hn]; exact IntWalk.i64_in _ (by omega)
  have haddb : IntKind.i64.wrap (1 + b % 16) = m := by rw [hm]; exact IntWalk.i64_in _ (by omega)
  have hn0 : 0 < n := by omega
  have hn1 : n ≤ 16 := by omega
  have hm0 : 0 < m := by omega
  have hm1 : m ≤ 16 := by omega
  clear hn hm hf hin hq hcells hlm
  go_enter Try.func6, Try.ntmps6
  go_wp2_with fail
  refine HF.out.mono ?_
  rintro e w1 ⟨rfl, hnw1⟩
  go_wp2_with fail
  refine (tnew_any n hn0 hn1 _).mono ?_
  rintro e w2 ⟨T1, rfl, hT1n, hlo1, hhi1, hT1, hnw2⟩
  have HM1 : Hid (Made w w2 w2.heap.size T1 []) := Lib.hid ⟨hT1, by rw [hlo1]; exact hnw1.size, Nat.le_of_eq hhi1, Nat.le_refl _, hnw1.trans hnw2⟩
  have HT1N := Lib.hid hT1n
  have HHI1 := Lib.hid hhi1
  clear hT1n hlo1 hhi1 hT1 HF
  go_wp2_with fail
  refine (tnew_any m hm0 hm1 _).mono ?_
  rintro e wb ⟨T2, rfl, hT2n, hlo2, hhi2, hT2, hnw3⟩
  have HP0 : Hid (P2 w wb wb.heap.size T1 T2 [] [] (.slice none 0 0) []) := Lib.hid (
    have hn := HM1.out.new.trans hnw3
    ⟨⟨(HM1.out.more hnw3).base, Own.nil _ _ _ _, by simp, rfl⟩, ⟨⟨hT2, by rw [hlo2]; exact HM1.out.new.size, Nat.le_of_eq hhi2, Nat.le_refl _, hn⟩, Own.nil _ _ _ _, by simp, rfl⟩, by rw [hlo2, HHI1.out]; exact Nat.le_refl _, hn⟩)
  have HT2N := Lib.hid hT2n
  clear hT2n hlo2 hhi2 hT2 hnw3 HM1 HHI1 hca hcb hma hmb hma16 hmb16 hadda haddb
  go_wp2
  go_loopw [9, 44] (fun v9 vi wr => ∃ (j : Nat) (v : Value) (X1 X2 Y : List MB), v9 = v ∧ vi = .int .i64 j ∧ j ≤ l.length ∧ Y.length ≤ j ∧ Hid (P2 w wr wb.heap.size T1 T2 X1 X2 v Y)) (fun _ vi _ => l.length - (intOf vi).toNat)
  case atStart => exact ⟨0, _, [], [], [], rfl, rfl, Nat.zero_le _, Nat.le_refl _, HP0.out⟩
  case round =>
    obtain ⟨j, v, X1, X2, Y, rfl, rfl, hj, hXj, HP⟩ := hrel
    clear HP0
    obtain ⟨vA, vc, rfl, _⟩ := HP.out.a.own.form
    have hX1 : X1.length ≤ 1000 := by have := HP.out.a.len; omega
    have hX2 : X2.length ≤ 1000 := by have := HP.out.b.len; omega
    by_cases hlt : j < l.length
    · have hd : decide ((j : Int) < l.length) = true := decide_eq_true (by omega)
      obtain ⟨o, ho⟩ : ∃ o, l[j]? = some o := ⟨_, List.getElem?_eq_getElem hlt⟩
      obtain ⟨b, off, rfl, hcell⟩ := HC.out (by rintro rfl; simp at hlt)
      have hmem : o ∈ l := List.mem_iff_getElem?.2 ⟨j, ho⟩
      have hoin := HIN.out o hmem
      have hnew := HP.out.n
      have hc0 := Fr.cell hnew (hcell j _ ho 0 _ rfl) id
      have hc1 := Fr.cell hnew (hcell j _ ho 1 _ rfl) id
      have hc2 := Fr.cell hnew (hcell j _ ho 2 _ rfl) id
      have hc3 := Fr.cell hnew (hcell j _ ho 3 _ rfl) id
      have hc4 := Fr.cell hnew (hcell j _ ho 4 _ rfl) id
      have HPL : Hid (∀ wz, New wr wz → Calls Try.prog 19 #[.pointer (some ⟨T1.tb, 0, none⟩), .slice vA Y.length vc, o.val] wz fun e w' => ∃ A' n' c' X', e = .returned (.tuple #[.slice A' n' c', .bool true]) ∧ X'.map MB.m = stepM (Y.map MB.m) o ∧ Made w w' wb.heap.size T1 X' ∧ PS w w' wb.heap.size T2 X2 (.slice vA Y.length vc) Y ∧ Fr T1.foot wz w') :=
        Lib.hid (fun wz hz => (play_any (HP.out.a.more hz) (by omega) o hoin).mono fun e w' ⟨v', X', Y', h1, h2, h3, _, h5⟩ =>
          have h6 := (HP.out.b.more hz)
          have ⟨A', c', h7, _⟩ := h2.own.form
          ⟨A', _, c', X', by rw [← h7]; exact h1, by rw [h3, HP.out.a.eq], h2.made, ⟨h6.made.apart h5 HP.out.foot1, (HP.out.a.more hz).row h6.own h5, h6.rd, h6.eq⟩, h5⟩)
      have HPM : Hid (∀ wz, PS w wz wb.heap.size T2 X2 (.slice vA Y.length vc) Y → Calls Try.prog 19 #[.pointer (some ⟨T2.tb, 0, none⟩), .slice vA Y.length vc, o.val] wz fun e w' => ∃ v' X' Y', e = .returned (.tuple #[v', .bool true]) ∧ PS w w' wb.heap.size T2 X' v' Y' ∧ Y'.map MB.m = stepM (Y.map MB.m) o ∧ Y'.length ≤ Y.length + 1 ∧ Fr T2.foot wz w') :=
        Lib.hid (fun wz hz => (play_any hz (by omega) o hoin).mono fun e w' ⟨v', X', Y', h1, h2, h3, h4, h5⟩ => ⟨v', X', Y', h1, h2, by rw [h2.eq, h3, HP.out.b.eq], by have h6 := h2.len; have h7 := HP.out.b.len; omega, h5⟩)
      obtain ⟨sM, hsM⟩ : ∃ sM, stepM (Y.map MB.m) o = sM := ⟨_, rfl⟩
      rw [hsM] at HPL HPM
      have hft2 := HP.out.foot2
      have hap := HP.out.ap
      obtain ⟨k, ⟨⟨uid, fl, body⟩, xA, xn, xc⟩, mode⟩ := o
      have c0 : wr.cell? ⟨b, off + j * 5, none⟩ = some (.int .i64 k) := hc0
      have c1 : wr.cell? ⟨b, off + j * 5 + 1, none⟩ = some (.int .u32 uid) := hc1
      have c2 : wr.cell? ⟨b, off + j * 5 + 2, none⟩ = some (.int .u8 fl) := hc2
      have c3 : wr.cell? ⟨b, off + j * 5 + 3, none⟩ = some (.slice xA xn xc) := hc3
      have c4 : wr.cell? ⟨b, off + j * 5 + 4, none⟩ = some (.int .i64 mode) := hc4
      have hkI : (j : Int) < l.length := by omega
      have hw : IntKind.i64.wrap ((j : Int) + 1) = (j : Int) + 1 := IntWalk.i64_in _ (by omega)
      have hn3 : New wr (wr.alloc (.cells #[.int .i64 k, .int .u32 uid, .int .u8 fl, .slice xA xn xc, .int .i64 mode] 49)) := (New.refl _).alloc _
      have bo3 : Blk (wr.alloc (.cells #[.int .i64 k, .int .u32 uid, .int .u8 fl, .slice xA xn xc, .int .i64 mode] 49)) wr.heap.size 49 #[.int .i64 k, .int .u32 uid, .int .u8 fl, .slice xA xn xc, .int .i64 mode] := Blk.new _ _ _
      have hbw := HP.out.a.made.bs
      have hbh := HP.out.a.made.hi
      have HN3 := Lib.hid hn3
      have HFT := Lib.hid hft2
      simp only [SOp.val] at HPL HPM
      clear hcell hc0 hc1 hc2 hc3 hc4 ho hmem hoin hnew hn3 hsM hft2
      go_wp2_with fail
      refine (HPL.out _ HN3.out).mono ?_
      rintro e w4 ⟨u1A, u1n, u1c, X1', rfl, hX1', hM4, hP4, hf4⟩
      have HM4 := Lib.hid hM4
      have HP4 := Lib.hid hP4
      have HX1 := Lib.hid hX1'
      have bo4 := hf4.blk bo3 (fun hs => by have := hs.2; omega)
      have d0 : w4.cell? ⟨wr.heap.size, 0, none⟩ = some (.int .i64 k) := bo4.cell 0
      have d1 : w4.cell? ⟨wr.heap.size, 1, none⟩ = some (.int .u32 uid) := bo4.cell 1
      have d2 : w4.cell? ⟨wr.heap.size, 2, none⟩ = some (.int .u8 fl) := bo4.cell 2
      have d3 : w4.cell? ⟨wr.heap.size, 3, none⟩ = some (.slice xA xn xc) := bo4.cell 3
      have d4 : w4.cell? ⟨wr.heap.size, 4, none⟩ = some (.int .i64 mode) := bo4.cell 4
      clear hM4 hP4 hX1' hf4 bo3
      go_wp2_with fail
      refine (HPM.out _ HP4.out).mono ?_
      rintro e w5 ⟨v', X2', Y', rfl, hP5, hY', hYl, hf5⟩
      have hm5 := HM4.out.apart hf5 HFT.out
      have HP5 : Hid (P2 w w5 wb.heap.size T1 T2 X1' X2' v' Y') := Lib.hid ⟨⟨hm5, hP5.own, hP5.rd, by rw [hY', HX1.out]⟩, hP5, hap, hP5.made.new⟩
      clear hm5 hP5 hY' hf5
      go_wp2
      go_roundw
      case rel => exact ⟨j + 1, _, X1', X2', Y', rfl, by go_num, by omega, by omega, HP5.out⟩
      case measure => simp [intOf]; omega
    · have hd : decide ((j : Int) < l.length) = false := decide_eq_false (by omega)
      have hYX : Y.length ≤ 1000 := by omega
      have hsz1 := tsizes_any HP.out.a.made.tbl
      rw [HT1N.out, ← HP.out.a.eq] at hsz1
      obtain ⟨s1, hs1⟩ : ∃ s1, sizesM n (Y.map MB.m) = s1 := ⟨_, rfl⟩
      obtain ⟨s2, hs2⟩ : ∃ s2, sizesM m (Y.map MB.m) = s2 := ⟨_, rfl⟩
      have hs1l : s1.length ≤ 16 ∧ 0 < s1.length := by rw [← hs1, sizesM_len]; omega
      have hs2l : s2.length ≤ 16 ∧ 0 < s2.length := by rw [← hs2, sizesM_len]; omega
      have HS1 : Hid (∀ j, 0 ≤ (s1.take j).sum ∧ (s1.take j).sum ≤ Y.length) := Lib.hid (fun j => by
        have h1 := sum_ok (l := s1) (by rw [← hs1]; exact sizes_pos _ _) j
        have h2 : s1.sum = (Y.length : Int) := by rw [← hs1, sizes_sum _ _ hn0, List.length_map]
        omega)
      have HS2 : Hid (∀ j, 0 ≤ (s2.take j).sum ∧ (s2.take j).sum ≤ Y.length) := Lib.hid (fun j => by
        have h1 := sum_ok (l := s2) (by rw [← hs2]; exact sizes_pos _ _) j
        have h2 : s2.sum = (Y.length : Int) := by rw [← hs2, sizes_sum _ _ hm0, List.length_map]
        omega)
      have HQ1 : Hid (s1.sum = (Y.length : Int)) := Lib.hid (by rw [← hs1, sizes_sum _ _ hn0, List.length_map])
      have HQ2 : Hid (s2.sum = (Y.length : Int)) := Lib.hid (by rw [← hs2, sizes_sum _ _ hm0, List.length_map])
      rw [hs1] at hsz1
      have HSZ1 := Lib.hid hsz1
      have HE2 := Lib.hid hs2
      obtain ⟨hs1a, hs1b⟩ := hs1l
      obtain ⟨hs2a, hs2b⟩ := hs2l
      clear hsz1 hs1 hs2
      go_wp2_with fail
      refine HSZ1.out.mono ?_
      rintro e w4 ⟨o4, rfl, ho4, hT4, hf4⟩
      have HP4 := Lib.hid (HP.out.turn1 hT4 hf4)
      obtain ⟨oA, oc, rfl, _⟩ := ho4.form
      obtain ⟨g, rfl⟩ := ho4.some_ hs1b
      have HO4 := Lib.hid ho4
      clear ho4 hT4 hf4 HSZ1
      go_wp2
      go_loop [16, 73] (fun vx vi => ∃ (i : Nat) (s : Int), vi = .int .i64 i ∧ vx = .int .i64 s ∧ Hid (s = (s1.take i).sum) ∧ i ≤ s1.length) (fun _ vi => s1.length - (intOf vi).toNat)
      case atStart => exact ⟨0, 0, rfl, rfl, rfl, Nat.zero_le _⟩
      case round =>
        obtain ⟨i, s, rfl, rfl, HSM, hi⟩ := hrel
        have hsb := HS1.out i
        rw [← HSM.out] at hsb
        by_cases hlt1 : i < s1.length
        · have hd1 : decide ((i : Int) < s1.length) = true := decide_eq_true (by omega)
          obtain ⟨x, hx⟩ : ∃ x, s1[i]? = some x := ⟨_, List.getElem?_eq_getElem hlt1⟩
          have hci : w4.cell? ⟨g, i, none⟩ = some (.int .i64 x) := by have := HO4.out.cell_at hx (j := 0) (u := .int .i64 x) rfl; simpa [intE] using this
          have hiI : (i : Int) < s1.length := by omega
          have hi1 : IntKind.i64.wrap ((i : Int) + 1) = (i : Int) + 1 := IntWalk.i64_in _ (by omega)
          have hsn : s + x = (s1.take (i + 1)).sum := by rw [take_snoc hx, List.sum_append, ← HSM.out]; simp
          have hsb2 := HS1.out (i + 1)
          rw [← hsn] at hsb2
          have hwx : IntKind.i64.wrap (s + x) = s + x := IntWalk.i64_in _ (by omega)
          have HSN := Lib.hid hsn
          clear hsn hx
          go_wp2
          go_round
          case rel => exact ⟨i + 1, s + x, by go_num, rfl, HSN.out, by omega⟩
          case measure => simp [intOf]; omega
        · have hd1 : decide ((i : Int) < s1.length) = false := decide_eq_false (by omega)
          have hsq : (s == (Y.length : Int)) = true := by
            have h1 := HSM.out
            rw [List.take_of_length_le (by omega), HQ1.out] at h1
            simpa using h1
          clear HO4 HQ1 HS1 HSM
          have hsz2 := tsizes_any HP4.out.b.made.tbl
          rw [HT2N.out, ← HP4.out.b.eq, HE2.out] at hsz2
          have HSZ2 := Lib.hid hsz2
          clear hsz2
          go_wp2_with fail
          refine HSZ2.out.mono ?_
          rintro e w5 ⟨o5, rfl, ho5, hT5, hf5⟩
          have HP5 := Lib.hid (HP4.out.turn2 hT5 hf5)
          obtain ⟨pA, pc, rfl, _⟩ := ho5.form
          obtain ⟨g2, rfl⟩ := ho5.some_ hs2b
          have HO5 := Lib.hid ho5
          clear ho5 hT5 hf5 HSZ2
          go_wp2
          go_loop [17, 84] (fun vx vi => ∃ (i : Nat) (s : Int), vi = .int .i64 i ∧ vx = .int .i64 s ∧ Hid (s = (s2.take i).sum) ∧ i ≤ s2.length) (fun _ vi => s2.length - (intOf vi).toNat)
          case atStart => exact ⟨0, 0, rfl, rfl, rfl, Nat.zero_le _⟩
          case round =>
            obtain ⟨i2, z, rfl, rfl, HZM, hi2⟩ := hrel
            have hzb := HS2.out i2
            rw [← HZM.out] at hzb
            by_cases hlt2 : i2 < s2.length
            · have hd2 : decide ((i2 : Int) < s2.length) = true := decide_eq_true (by omega)
              obtain ⟨x, hx⟩ : ∃ x, s2[i2]? = some x := ⟨_, List.getElem?_eq_getElem hlt2⟩
              have hci : w5.cell? ⟨g2, i2, none⟩ = some (.int .i64 x) := by have := HO5.out.cell_at hx (j := 0) (u := .int .i64 x) rfl; simpa [intE] using this
              have hiI : (i2 : Int) < s2.length := by omega
              have hi1 : IntKind.i64.wrap ((i2 : Int) + 1) = (i2 : Int) + 1 := IntWalk.i64_in _ (by omega)
              have hsn : z + x = (s2.take (i2 + 1)).sum := by rw [take_snoc hx, List.sum_append, ← HZM.out]; simp
              have hsb2 := HS2.out (i2 + 1)
              rw [← hsn] at hsb2
              have hwx : IntKind.i64.wrap (z + x) = z + x := IntWalk.i64_in _ (by omega)
              have HSN := Lib.hid hsn
              clear hsn hx
              go_wp2
              go_round
              case rel => exact ⟨i2 + 1, z + x, by go_num, rfl, HSN.out, by omega⟩
              case measure => simp [intOf]; omega
            · have hd2 : decide ((i2 : Int) < s2.length) = false := decide_eq_false (by omega)
              have hzq : (z == (Y.length : Int)) = true := by
                have h1 := HZM.out
                rw [List.take_of_length_le (by omega), HQ2.out] at h1
                simpa using h1
              clear HO5 HQ2 HS2 HZM
              obtain ⟨sl, hsl⟩ : ∃ sl, ((withL (Y.map MB.m) 0).mergeSort fun x y => decide (x ≤ y)) = sl := ⟨_, rfl⟩
              have hsll : sl.length ≤ 1000 := by
                rw [← hsl, List.length_mergeSort]
                unfold withL
                rw [List.length_map]
                have h1 := List.length_filter_le (fun m : Msg => decide (andI m.fl 0 = 0)) (Y.map MB.m)
                have h2 : (Y.map MB.m).length = Y.length := List.length_map ..
                omega
              have HSL := Lib.hid hsl
              clear hsl
              go_wp2_with fail
              refine (salive_any _).mono ?_
              rintro e w6 ⟨rfl, hn6⟩
              have HP6 := Lib.hid (HP5.out.more hn6)
              have hw1 := twith_any HP6.out.a.made.tbl (by omega) 0 (by omega)
              rw [← HP6.out.a.eq, HSL.out] at hw1
              have HW1 := Lib.hid hw1
              clear hw1 hn6
              go_wp2_with fail
              refine HW1.out.mono ?_
              rintro e w7 ⟨o7, rfl, ho7, hT7, hf7⟩
              obtain ⟨qA, qc, rfl, _⟩ := ho7.form
              have HP7 := Lib.hid (HP6.out.turn1 hT7 hf7)
              have HO7 := Lib.hid ho7
              have hw2 := twith_any HP7.out.b.made.tbl (by omega) 0 (by omega)
              rw [← HP7.out.b.eq, HSL.out] at hw2
              have HW2 := Lib.hid hw2
              clear hw2 ho7 hT7 hf7
              go_wp2_with fail
              refine HW2.out.mono ?_
              rintro e w8 ⟨o8, rfl, ho8, hT8, hf8⟩
              obtain ⟨rA, rc, rfl, _⟩ := ho8.form
              have HP8 := Lib.hid (HP7.out.turn2 hT8 hf8)
              have hrow := HO7.out.fr hf8 fun b hb hs => by have h1 := (HO7.out.block hb).1; have h2 := hs.2; have h3 := HP6.out.b.made.hi; have h4 := HP6.out.b.made.bs; omega
              have HE := Lib.hid (uequal_any _ _ sl sl _ hrow.rd ho8.rd (by omega) (by omega))
              clear ho8 hT8 hf8 hrow
              go_wp2_with fail
              refine HE.out.mono ?_
              first | rw [decide_eq_true rfl] | rw [decide_true]
              rintro e w9 ⟨rfl, hn9⟩
              go_wp2
              go_ret
              exact ⟨rfl, HP8.out.n.trans hn9⟩

/-- The law, its arguments in order. -/
theorem agrees_law (a b : Int) (x : Value × List SOp) (w : World) (ha0 : 0 ≤ a) (ha1 : a ≤ 255) (hb0 : 0 ≤ b) (hb1 : b ≤ 255) (hx : Rd sopE w x.1 x.2 ∧ (∀ y ∈ x.2, y.inn w) ∧ x.2.length ≤ maxLen) :
    Calls Try.prog 6 #[.int .u8 a, .int .u8 b, x.1] w fun e w' => e = .returned (.bool true) ∧ New w w' := by
  cases hq : fewP x.2 with
  | false => exact agrees_few a b x w hx hq
  | true => exact agrees_main a b x w ha0 ha1 hb0 hb1 hx hq

end Go.Proofs.Ytjnaihhkbbeaoaa
end

