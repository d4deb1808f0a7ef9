/- StripeKeeps: the walk. -/
import Derived.Test.YtjnaihhkbbeaoaaStNil
import Derived.Test.YtjnaihhkbbeaoaaRefM4
namespace Go.Proofs.Ytjnaihhkbbeaoaa
open Go.RowKit

theorem TBX.rebase {base base' : Nat} {w : World} {T : Tb} (h : TBX base w T []) : TBX base' w T [] := ⟨h.hd, h.n0, h.n1, h.nc, h.pt, h.part, h.map, by simp, h.nd, h.ok, h.qinj, h.minj, h.rtb, h.rpb, h.rq, h.rm, h.top⟩

theorem TBX.fr2 {base : Nat} {w w' : World} {T : Tb} {X : List MB} {S : Nat → Prop} (h : TBX base w T X) (hf : Fr S w w') (hS : ∀ k, S k → ¬ T.foot k) (hB : ∀ x ∈ X, ∀ b, x.bv.ownBlock = some b → ¬ S b) : TBX base w' T X := by
  obtain ⟨cs, hp, hpi⟩ := h.pt
  exact ⟨hf.blk h.hd fun hs => hS _ hs h.rtb, h.n0, h.n1, h.nc, ⟨cs, hf.blk hp fun hs => hS _ hs h.rpb, hpi⟩, fun i hi => hf.blk (h.part i hi) fun hs => hS _ hs (h.rq i hi), fun i hi => (h.map i hi).fr hf fun hs => hS _ hs (h.rm i hi),
    fun x hx => (h.body x hx).fr hf (hB x hx), h.nd, h.ok, h.qinj, h.minj, h.rtb, h.rpb, h.rq, h.rm, Nat.le_trans h.top hf.size⟩

theorem of_one {X : List MB} {m : Msg} (h : X.map MB.m = [m]) : ∃ x, X = [x] ∧ x.m = m := by
  match X, h with
  | [x], h => exact ⟨x, rfl, by simpa using h⟩

set_option maxRecDepth 100000 in
set_option maxHeartbeats 6400000 in
theorem keeps_law (x : MB) (w : World) (hx : x.inn w) :
    Calls Try.prog 5 #[x.val] w fun e w' => e = .returned (.bool true) ∧ New w w' := by
  obtain ⟨i0, hi, hz0, hz1, hz2⟩ := info_parts u8_info
  obtain ⟨hwf, hb, _⟩ := hx
  have hne := MB.len_eq hb
  obtain ⟨⟨uid, fl, body⟩, A, n, c⟩ := x
  dsimp only at hne
  subst hne
  have HB := Lib.hid hb
  have HWF := Lib.hid hwf
  simp only [MB.val]
  clear hb hwf
  obtain ⟨wq, hwq⟩ : ∃ wq, wq = w.alloc (.cells #[.int .u32 uid, .int .u8 fl, .slice A body.length c] 34) := ⟨_, rfl⟩
  have hn1 : New w wq := by rw [hwq]; exact (New.refl w).alloc _
  have bg : Blk wq w.heap.size 34 #[.int .u32 uid, .int .u8 fl, .slice A body.length c] := by rw [hwq]; exact Blk.new _ _ _
  have hqs : wq.heap.size = w.heap.size + 1 := by rw [hwq]; simp
  have HWQ := Lib.hid hwq
  clear hwq
  by_cases hc : 300 < body.length ∨ uid = 0 ∨ 31 < fl
  · rcases Nat.lt_or_ge 300 body.length with hl | hl
    · have hd : decide ((300 : Int) < body.length) = true := decide_eq_true (by omega)
      clear hc
      go_enter Try.func5, Try.ntmps5
      go_wp2_with fail
      refine (salive_any _).mono ?_
      rintro e w1 ⟨rfl, hn2⟩
      go_wp2
      go_ret
      exact ⟨rfl, hn1.trans (HWQ.out ▸ hn2)⟩
    · have hd : decide ((300 : Int) < body.length) = false := decide_eq_false (by omega)
      by_cases h0 : uid = 0
      · have hu : (uid == 0) = true := by simp [h0]
        clear hc h0
        go_enter Try.func5, Try.ntmps5
        go_wp2_with fail
        refine (salive_any _).mono ?_
        rintro e w1 ⟨rfl, hn2⟩
        go_wp2
        go_ret
        exact ⟨rfl, hn1.trans (HWQ.out ▸ hn2)⟩
      · have hu : (uid == 0) = false := by simp [h0]
        have hf : decide (31 < fl) = true := decide_eq_true (by omega)
        clear hc h0
        go_enter Try.func5, Try.ntmps5
        go_wp2_with fail
        refine (salive_any _).mono ?_
        rintro e w1 ⟨rfl, hn2⟩
        go_wp2
        go_ret
        exact ⟨rfl, hn1.trans (HWQ.out ▸ hn2)⟩
  have hl : body.length ≤ 300 := by omega
  have hd : decide ((300 : Int) < body.length) = false := decide_eq_false (by omega)
  have hu : (uid == 0) = false := by simp; omega
  have hf : decide (31 < fl) = false := decide_eq_false (by omega)
  have HPC : Hid (putM (([] : List MB).map MB.m) ⟨uid, fl, body⟩ = [⟨uid, fl, body⟩]) := by
    have : putC (([] : List MB).map MB.m) ⟨uid, fl, body⟩ = 0 := by
      unfold putC
      rw [if_neg (by simp; omega)]
      rfl
    show putM _ _ = _
    unfold putM
    rw [this]
    rfl
  clear hc
  go_enter Try.func5, Try.ntmps5
  go_wp2_with fail
  rw [← HWQ.out]
  refine (tnew_any 3 (by omega) (by omega) _).mono ?_
  rintro e w1 ⟨T, rfl, hTn, hlo, hhi, hT, hn2⟩
  have b1 := hn2.blk bg
  have c10 : w1.cell? ⟨w.heap.size, 0, none⟩ = some (.int .u32 uid) := b1.cell 0
  have c11 : w1.cell? ⟨w.heap.size, 1, none⟩ = some (.int .u8 fl) := b1.cell 1
  have c12 : w1.cell? ⟨w.heap.size, 2, none⟩ = some (.slice A body.length c) := b1.cell 2
  have hs1 := b1.lt
  have hb1 : Rd (intE .u8) w1 (.slice A body.length c) body := HB.out.new (hn1.trans hn2)
  have HB1 := Lib.hid hb1
  have hO1 := Own.empty1 (intE .u8) 5 w1.heap.size w1 (.cells #[.int .u32 uid, .int .u8 fl, .slice A body.length c] 34) (Nat.le_refl _)
  have hsz2 : ((w1.alloc (.cells #[.int .u32 uid, .int .u8 fl, .slice A body.length c] 34)).alloc (.cells #[] 5)).heap.size = w1.heap.size + 2 := by simp
  clear hb1
  go_wp2_with (first
    | (at_builtin; refine wpList_append (E := intE .u8) (l := []) rfl _ _ _ rfl Try.underlying32 hi hz0 hz1 hz2 rfl hO1 rfl ((HB1.out.alloc _).alloc _) rfl (by unfold maxLen; simp; omega) (by simp; omega) (by omega) ?_; intro v2 w2 hv2 hf2 hl2
       rw [List.nil_append] at hv2
       have hn12 : New w1 w2 := New.append (((New.refl w1).alloc (.cells #[.int .u32 uid, .int .u8 fl, .slice A body.length c] 34)).alloc _) hO1 hf2
       obtain ⟨A2, n2, c2, rfl⟩ := own_shape hv2
       have bx2 : Blk w2 w1.heap.size 34 #[.int .u32 uid, .int .u8 fl, .slice A body.length c] := (fr_or hf2 fun _ h => h).blk ((Blk.new w1 34 _).alloc _) (by simp [Value.ownBlock])
       have x0 : w2.cell? ⟨w1.heap.size, 0, none⟩ = some (.int .u32 uid) := bx2.cell 0
       have x1 : w2.cell? ⟨w1.heap.size, 1, none⟩ = some (.int .u8 fl) := bx2.cell 1
       have x2 : w2.cell? ⟨w1.heap.size, 2, none⟩ = some (.slice A body.length c) := bx2.cell 2
       have z2 : w2.frozen? ⟨w1.heap.size, 2, none⟩ = false := bx2.frozen 2)
    | fail)
  obtain ⟨w3, hw3⟩ : ∃ w3, w3 = w2.setCell ⟨w1.heap.size, 2, none⟩ (.slice A2 n2 c2) := ⟨_, rfl⟩
  have hn13 : New w1 w3 := by rw [hw3]; exact New.two hn12 ((Fr.refl (fun k => k = w1.heap.size) _).setCell (p := ⟨w1.heap.size, 2, none⟩) (fun _ => rfl) _) (fun i hi => by omega)
  have bx3 : Blk w3 w1.heap.size 34 #[.int .u32 uid, .int .u8 fl, .slice A2 n2 c2] := by rw [hw3]; exact bx2.set_ 2 _
  have hv3 : Own (intE .u8) 5 w1.heap.size w3 (.slice A2 n2 c2) body := by
    rw [hw3]
    refine hv2.fr (S := fun k => k = w1.heap.size) ((Fr.refl (fun k => k = w1.heap.size) _).setCell (p := ⟨w1.heap.size, 2, none⟩) (fun _ => rfl) _) fun b hb hs => ?_
    obtain ⟨cs, h1⟩ := hv2.heap hb
    exact h1.ne_ bx2 (by decide) hs
  have hn2l : n2 = body.length := by obtain ⟨_, _, he, _⟩ := hv2.form; injection he
  subst hn2l
  rw [← hw3]
  have b3 := hn13.blk b1
  have hT3 : TBX w3.heap.size w3 T [] := (hT.new hn13).rebase
  have hs3 := hn13.size
  clear hw3 hf2 hl2 bx2 x0 x1 x2 z2 hv2 hn12 hO1 hT c10 c11 c12 hsz2
  refine (tput_any hT3 (Nat.le_refl _) (by simp) ⟨⟨uid, fl, body⟩, A2, body.length, c2⟩ HWF.out hv3.rd).mono ?_
  rw [HPC.out]
  obtain ⟨pc, hpc⟩ : ∃ pc, putC (([] : List MB).map MB.m) ⟨uid, fl, body⟩ = pc := ⟨_, rfl⟩
  rw [hpc]
  rintro e w4 ⟨rfl, X, hX, _, hT4, hf4⟩
  obtain ⟨y, rfl, hym⟩ := of_one hX
  have b4 : Blk w4 w.heap.size 34 #[.int .u32 uid, .int .u8 fl, .slice A body.length c] := hf4.blk b3 (fun hs => by have := hs.1; omega)
  have bx4 : Blk w4 w1.heap.size 34 #[.int .u32 uid, .int .u8 fl, .slice A2 body.length c2] := hf4.blk bx3 (fun hs => by have := hs.2; omega)
  have hv4 : Own (intE .u8) 5 w1.heap.size w4 (.slice A2 body.length c2) body := hv3.fr hf4 fun b hb hs => by have h1 := (hv3.block hb).1; have h2 := hs.2; omega
  have hrow := fun b hb => hv3.block (b := b) hb
  have HROW := Lib.hid hrow
  have HN4 := Lib.hid (New.two ((hn1.trans hn2).trans hn13) hf4 fun i hi => by have := hi.1; omega)
  have hs4 := hf4.size
  have HT4 := Lib.hid hT4
  have HV4 := Lib.hid hv4
  have HYM := Lib.hid hym
  have cx4 : w4.cell? ⟨w1.heap.size, 2, none⟩ = some (.slice A2 body.length c2) := bx4.cell 2
  clear hX hpc hT3 hf4 hv3 hrow hT4 hym bx3 b3 hn13 hv4
  go_wp2
  go_loopw [41] (fun vi wr => ∃ (k : Nat) (l' : List Int), vi = .int .i64 k ∧ k ≤ body.length ∧ l'.length = body.length ∧ Own (intE .u8) 5 w1.heap.size wr (.slice A2 body.length c2) l' ∧ Fr (fun b => (Value.slice A2 body.length c2).ownBlock = some b) w4 wr) (fun vi _ => body.length - (intOf vi).toNat)
  case atStart => exact ⟨0, body, rfl, Nat.zero_le _, rfl, HV4.out, Fr.refl _ _⟩
  case round =>
    obtain ⟨k, l', rfl, hk, hl', hown, hfr⟩ := hrel
    have bxr := hfr.blk bx4 (fun hs => by obtain ⟨cs, h1⟩ := HV4.out.heap hs; exact h1.ne_ bx4 (by decide) rfl)
    have bmr := hfr.blk b4 (fun hs => by obtain ⟨cs, h1⟩ := HV4.out.heap hs; exact h1.ne_ b4 (by decide) rfl)
    by_cases hlt : k < body.length
    · have hd2 : decide ((k : Int) < body.length) = true := decide_eq_true (by omega)
      have hkI : (k : Int) < body.length := by omega
      have hkw : IntKind.i64.wrap ((k : Int) + 1) = (k : Int) + 1 := IntWalk.i64_in _ (by omega)
      obtain ⟨g, rfl⟩ := hown.some_ (by omega)
      obtain ⟨y0, hy0⟩ : ∃ y0, l'[k]? = some y0 := ⟨_, List.getElem?_eq_getElem (by omega)⟩
      have cx : wr.cell? ⟨w1.heap.size, 2, none⟩ = some (.slice (some ⟨g, 0, none⟩) body.length c2) := bxr.cell 2
      have ck : wr.cell? ⟨g, k, none⟩ = some (.int .u8 y0) := hown.icell hy0
      have zk := hown.ifrozen k
      obtain ⟨y1, hy1⟩ : ∃ y1, IntKind.u8.wrap (y0 + 1) = y1 := ⟨_, rfl⟩
      have hnext := hown.istored k y1
      have HNX := Lib.hid hnext
      have HFR := Lib.hid ((hfr.setCell (p := ⟨g, k, none⟩) (fun _ => rfl) (.int .u8 y1)))
      clear hy0 hnext hown hfr
      go_wp2
      go_roundw
      case rel => exact ⟨k + 1, l'.set k y1, by go_num, by omega, by simp; omega, HNX.out, HFR.out⟩
      case measure => simp [intOf]; omega
    · have hd2 : decide ((k : Int) < body.length) = false := decide_eq_false (by omega)
      obtain ⟨wa, rfl⟩ : ∃ wa : World, wa = wr := ⟨_, rfl⟩
      have HTR := Lib.hid (HT4.out.fr2 hfr (fun b hb hft => by have h1 := (HROW.out b hb).1; have h2 := hft.2; omega) (fun x hx b hb hs => by have h1 := ((HT4.out.body x hx).block hb).1; have h2 := (HROW.out b hs).2; omega))
      have c0 : wa.cell? ⟨w.heap.size, 0, none⟩ = some (.int .u32 uid) := bmr.cell 0
      have HNR := Lib.hid (New.two HN4.out hfr fun b hb => by have h1 := (HROW.out b hb).1; omega)
      have hsr := hfr.size
      clear hown hfr
      have hwf := HWF.out
      have hu0 := hwf.1.1
      have hu1 := hwf.1.2
      clear hwf
      simp only at hu0 hu1
      have hfx : findX [y] uid = some y := by
        have h1 : y.m.uid = uid := by rw [HYM.out]
        unfold findX
        simp [h1]
      go_wp2_with fail
      have hg6 := tget_any HTR.out uid hu0 hu1
      rw [hfx] at hg6
      simp only [Option.getD_some, Option.isSome_some] at hg6
      refine hg6.mono ?_
      rintro e w6 ⟨⟨⟨uid6, fl6, body6⟩, A6, n6, c6⟩, rfl, hy6, ho6, hT6, hf6⟩
      simp only [MB.val, MB.bv] at hy6 ho6 ⊢
      have hn6l : n6 = body6.length := by obtain ⟨_, _, he, _⟩ := ho6.form; injection he
      subst hn6l
      have bm6 := hf6.blk bmr (fun hs => by have := hs.1; omega)
      have hs6 := hf6.size
      have hl6 : body6.length ≤ 300 := by rw [HYM.out] at hy6; injection hy6 with _ _ e3; rw [e3]; exact hl
      obtain ⟨w7, hw7⟩ : ∃ w7, w7 = w6.alloc (.cells #[.int .u32 uid6, .int .u8 fl6, .slice A6 body6.length c6] 34) := ⟨_, rfl⟩
      have hn67 : New w6 w7 := by rw [hw7]; exact (New.refl _).alloc _
      have by7 : Blk w7 w6.heap.size 34 #[.int .u32 uid6, .int .u8 fl6, .slice A6 body6.length c6] := by rw [hw7]; exact Blk.new _ _ _
      have HO7 := Lib.hid (ho6.new hn67)
      have HT7 := Lib.hid (hT6.new hn67)
      have bm7 := hn67.blk bm6
      have hrow6 := fun b hb => ho6.block (b := b) hb
      have HROW6 := Lib.hid hrow6
      have HN7 := Lib.hid (New.two HNR.out (Fr.trans' hf6 hn67 fun _ _ h => h.elim) fun i hi => by have := hi.1; omega)
      have cy7 : w7.cell? ⟨w6.heap.size, 2, none⟩ = some (.slice A6 body6.length c6) := by7.cell 2
      have HW7 := Lib.hid hw7
      have HY6 := Lib.hid hy6
      have hs7 := hn67.size
      clear hw7 hn67 hrow6 ho6 hT6 hf6 hg6 bm6 c0 hy6
      go_wp2
      rw [← HW7.out]
      go_loopw [62] (fun vi w' => ∃ (k : Nat) (l' : List Int), vi = .int .i64 k ∧ k ≤ body6.length ∧ l'.length = body6.length ∧ Own (intE .u8) 5 wa.heap.size w' (.slice A6 body6.length c6) l' ∧ Fr (fun b => (Value.slice A6 body6.length c6).ownBlock = some b) w7 w') (fun vi _ => body6.length - (intOf vi).toNat)
      case atStart => exact ⟨0, body6, rfl, Nat.zero_le _, rfl, HO7.out, Fr.refl _ _⟩
      case round =>
        obtain ⟨k2, l2, rfl, hk2, hl2', hown, hfr⟩ := hrel
        have byr := hfr.blk by7 (fun hs => by obtain ⟨cs, h1⟩ := HO7.out.heap hs; exact h1.ne_ by7 (by decide) rfl)
        have bmr2 := hfr.blk bm7 (fun hs => by obtain ⟨cs, h1⟩ := HO7.out.heap hs; exact h1.ne_ bm7 (by decide) rfl)
        by_cases hlt : k2 < body6.length
        · have hd2 : decide ((k2 : Int) < body6.length) = true := decide_eq_true (by omega)
          have hkI : (k2 : Int) < body6.length := by omega
          have hkw : IntKind.i64.wrap ((k2 : Int) + 1) = (k2 : Int) + 1 := IntWalk.i64_in _ (by omega)
          obtain ⟨g, rfl⟩ := hown.some_ (by omega)
          obtain ⟨y0, hy0⟩ : ∃ y0, l2[k2]? = some y0 := ⟨_, List.getElem?_eq_getElem (by omega)⟩
          have cx : wr.cell? ⟨w6.heap.size, 2, none⟩ = some (.slice (some ⟨g, 0, none⟩) body6.length c6) := byr.cell 2
          have ck : wr.cell? ⟨g, k2, none⟩ = some (.int .u8 y0) := hown.icell hy0
          have zk := hown.ifrozen k2
          obtain ⟨y1, hy1⟩ : ∃ y1, IntKind.u8.wrap (y0 + 1) = y1 := ⟨_, rfl⟩
          have hnext := hown.istored k2 y1
          have HNX := Lib.hid hnext
          have HFR := Lib.hid ((hfr.setCell (p := ⟨g, k2, none⟩) (fun _ => rfl) (.int .u8 y1)))
          clear hy0 hnext hown hfr
          go_wp2
          go_roundw
          case rel => exact ⟨k2 + 1, l2.set k2 y1, by go_num, by omega, by simp; omega, HNX.out, HFR.out⟩
          case measure => simp [intOf]; omega
        · have hd2 : decide ((k2 : Int) < body6.length) = false := decide_eq_false (by omega)
          have htop := HTR.out.top
          have HT8 := Lib.hid (HT7.out.fr2 hfr (fun b hb hft => by have h1 := (HROW6.out b hb).1; have h2 := hft.2; omega) (fun x hx b hb hs => by have h1 := ((HTR.out.body x hx).block hb).2; have h2 := (HROW6.out b hs).1; omega))
          have c0 : wr.cell? ⟨w.heap.size, 0, none⟩ = some (.int .u32 uid) := bmr2.cell 0
          have HNR8 := Lib.hid (New.two HN7.out hfr fun b hb => by have h1 := (HROW6.out b hb).1; have := HNR.out.size; omega)
          clear hown hfr
          have hg8 := tget_any HT8.out uid hu0 hu1
          rw [hfx] at hg8
          simp only [Option.getD_some, Option.isSome_some] at hg8
          have HG8 := Lib.hid hg8
          clear hg8
          go_wp2_with fail
          refine HG8.out.mono ?_
          rintro e w9 ⟨⟨⟨uid9, fl9, body9⟩, A9, n9, c9⟩, rfl, hy9, ho9, hT9, hf9⟩
          simp only [MB.val, MB.bv] at hy9 ho9 ⊢
          have bm9 := hf9.blk bmr2 (fun hs => by have := hs.1; omega)
          have HN9 := Lib.hid (New.two HNR8.out hf9 fun b hb => by have := hb.1; omega)
          have hz9 : (⟨uid9, fl9, body9⟩ : Msg) = ⟨uid, fl, body⟩ := hy9.trans HYM.out
          injection hz9 with e1 e2 e3
          subst e1 e2 e3
          have HO9 := Lib.hid ho9.rd
          clear hy9 ho9 hT9 hf9 HG8
          go_wp2_with fail
          refine (salive_any _).mono ?_
          rintro e w10 ⟨rfl, hn10⟩
          have bz10 := hn10.blk (Blk.new w9 34 #[.int .u32 uid9, .int .u8 fl9, .slice A9 n9 c9])
          have bm10 := hn10.blk (bm9.alloc _)
          have z0 : w10.cell? ⟨w9.heap.size, 0, none⟩ = some (.int .u32 uid9) := bz10.cell 0
          have z1 : w10.cell? ⟨w9.heap.size, 1, none⟩ = some (.int .u8 fl9) := bz10.cell 1
          have z2 : w10.cell? ⟨w9.heap.size, 2, none⟩ = some (.slice A9 n9 c9) := bz10.cell 2
          have m0 : w10.cell? ⟨w.heap.size, 0, none⟩ = some (.int .u32 uid9) := bm10.cell 0
          have m1 : w10.cell? ⟨w.heap.size, 1, none⟩ = some (.int .u8 fl9) := bm10.cell 1
          have m2 : w10.cell? ⟨w.heap.size, 2, none⟩ = some (.slice A body9.length c) := bm10.cell 2
          have HN10 := Lib.hid ((HN9.out.alloc (.cells #[.int .u32 uid9, .int .u8 fl9, .slice A9 n9 c9] 34)).trans hn10)
          have HZ := Lib.hid ((HO9.out.alloc (.cells #[.int .u32 uid9, .int .u8 fl9, .slice A9 n9 c9] 34)).new hn10)
          clear hn10
          go_wp2_with fail
          refine (rsame_any ⟨⟨uid9, fl9, body9⟩, A9, n9, c9⟩ ⟨⟨uid9, fl9, body9⟩, A, body9.length, c⟩ _ HZ.out (HB.out.new HN10.out) rfl).mono ?_
          rintro e w11 ⟨rfl, hn11⟩
          go_wp2
          go_ret
          exact ⟨rfl, HN10.out.trans hn11⟩

end Go.Proofs.Ytjnaihhkbbeaoaa
