/- The walk of StoreNil: SNilM, SlB, SNil. -/
import Derived.Test.YtdbbchifkjhfcaaGreatGZ16AR
import Derived.Test.YtdbbchifkjhfcaaGreatRows
import Derived.WalkKit
import Derived.WalkSpells
import Derived.WalkLawsBesides
import Derived.Deep.QuietTactic
import Derived.BigQuiet
import Derived.Lib.Hide
import Derived.Lib.SliceRun

section
/- A nil mailbox. -/
namespace Go.Proofs.YtdbbchifkjhfcaaGreat
open Go.RowKit

section
variable (w : World)
theorem nsub (i : Int) : Calls Tryz.prog 8 #[.pointer none, .int .i64 i] w fun e w' => e = .returned (.tuple #[.slice none 0 0, .int .i64 1]) ∧ w' = w := by
  go_enter Tryz.func8, Tryz.ntmps8
  go_wp2
  go_ret2
  exact ⟨rfl, rfl⟩
theorem napp (f : Int) (v : Value) : Calls Tryz.prog 9 #[.pointer none, .int .u8 f, v] w fun e w' => e = .returned (.tuple #[.int .u32 0, .int .i64 1]) ∧ w' = w := by
  go_enter Tryz.func9, Tryz.ntmps9
  go_wp2
  go_ret2
  exact ⟨rfl, rfl⟩
theorem nchange (a k m f : Int) : Calls Tryz.prog 10 #[.pointer none, .int .i64 a, .int .u32 k, .int .i64 m, .int .u8 f] w fun e w' => e = .returned (.tuple #[.int .u8 0, .int .i64 1]) ∧ New w w' := by
  go_enter Tryz.func10, Tryz.ntmps10
  go_wp2
  go_ret2
  exact ⟨rfl, (New.refl _).alloc _⟩
set_option maxRecDepth 100000 in
theorem nget (k : Int) : Calls Tryz.prog 21 #[.pointer none, .int .u32 k] w fun e w' => e = .returned (.tuple #[.agg #[.int .u32 0, .int .u8 0, .slice none 0 0], .bool false]) ∧ New w w' := by
  have hb : Blk (w.alloc (.cells #[.int .u32 0, .int .u8 0, .slice none 0 0] 55)) w.heap.size 55 #[.int .u32 0, .int .u8 0, .slice none 0 0] := Blk.new _ _ _
  go_enter Tryz.func21, Tryz.ntmps21
  go_wp2
  refine bodyPost_ret (results_cell_tmp rfl _ _ rfl rfl (loadMsg (a := .int .u32 0) (b := .int .u8 0) (c := .slice none 0 0) ?_)) rfl ?_
  · first | exact hb | exact ((hb.set_ 0 _).set_ 1 _).set_ 2 _
  · first | exact ⟨rfl, (New.refl _).alloc _⟩ | exact ⟨rfl, New.two ((New.refl w).alloc _) (((((Fr.refl (fun k => k = w.heap.size) _).setCell (p := ⟨w.heap.size, 0, none⟩) (fun _ => rfl) _).setCell (p := ⟨w.heap.size, 1, none⟩) (fun _ => rfl) _).setCell (p := ⟨w.heap.size, 2, none⟩) (fun _ => rfl) _)) fun k hk => by omega⟩
theorem nunsub (i : Int) : Calls Tryz.prog 23 #[.pointer none, .int .i64 i] w fun e w' => e = .returned (.bool false) ∧ w' = w := by
  go_enter Tryz.func23, Tryz.ntmps23
  go_wp2
  go_ret
  exact ⟨rfl, rfl⟩
theorem nflush (i : Int) (b : Bool) : Calls Tryz.prog 12 #[.pointer none, .int .i64 i, .bool b] w fun e w' => e = .returned (.slice none 0 0) ∧ w' = w := by
  go_enter Tryz.func12, Tryz.ntmps12
  go_wp2
  go_ret
  exact ⟨rfl, rfl⟩
theorem npending (i : Int) : Calls Tryz.prog 24 #[.pointer none, .int .i64 i] w fun e w' => e = .returned (.int .i64 0) ∧ w' = w := by
  go_enter Tryz.func24, Tryz.ntmps24
  go_wp2
  go_ret
  exact ⟨rfl, rfl⟩
theorem nexpunge : Calls Tryz.prog 14 #[.pointer none] w fun e w' => e = .returned (.slice none 0 0) ∧ w' = w := by
  go_enter Tryz.func14, Tryz.ntmps14
  go_wp2
  go_ret
  exact ⟨rfl, rfl⟩
theorem nuids : Calls Tryz.prog 17 #[.pointer none] w fun e w' => e = .returned (.slice none 0 0) ∧ w' = w := by
  go_enter Tryz.func17, Tryz.ntmps17
  go_wp2
  go_ret
  exact ⟨rfl, rfl⟩
theorem nnext : Calls Tryz.prog 25 #[.pointer none] w fun e w' => e = .returned (.int .u32 0) ∧ w' = w := by
  go_enter Tryz.func25, Tryz.ntmps25
  go_wp2
  go_ret
  exact ⟨rfl, rfl⟩
theorem nvalidity : Calls Tryz.prog 26 #[.pointer none] w fun e w' => e = .returned (.int .u32 0) ∧ w' = w := by
  go_enter Tryz.func26, Tryz.ntmps26
  go_wp2
  go_ret
  exact ⟨rfl, rfl⟩
theorem nstripes : Calls Tryz.prog 27 #[.pointer none] w fun e w' => e = .returned (.int .i64 0) ∧ w' = w := by
  go_enter Tryz.func27, Tryz.ntmps27
  go_wp2
  go_ret
  exact ⟨rfl, rfl⟩
end

end Go.Proofs.YtdbbchifkjhfcaaGreat
end

section
/- slices.Equal at []byte. -/
namespace Go.Proofs.YtdbbchifkjhfcaaGreat
open Go.RowKit

set_option maxHeartbeats 1600000 in
theorem bequal_any (v u : Value) (l m : List Int) (w : World) (hv : Rd (intE .u8) w v l) (hu : Rd (intE .u8) w u m) (hl : l.length ≤ 1000000) (hm : m.length ≤ 1000000) :
    Calls Tryz.prog 22 #[v, u] w fun e w' => e = .returned (.bool (decide (l = m))) ∧ New w w' := by
  obtain ⟨A, c, rfl, hc, hA⟩ := hv.ints
  obtain ⟨B, d, rfl, hd, hB⟩ := hu.ints
  have HA := Lib.hid hA
  have HB := Lib.hid hB
  clear hA hB hv hu
  by_cases hlm : l.length = m.length
  · generalize hq : decide (l = m) = q
    have HQ := Lib.hid hq
    have HLM := Lib.hid hlm
    rw [← hlm]
    rw [← hlm] at hm
    clear hq hlm
    go_enter Tryz.func22, Tryz.ntmps22
    go_wp2
    go_loopw [13] (fun vi wr => ∃ k : Nat, k ≤ l.length ∧ vi = .int .i64 k ∧ Hid (∀ i, i < k → l[i]? = m[i]?) ∧ New w wr) (fun vi _ => l.length - (intOf vi).toNat)
    case atStart => exact ⟨0, Nat.zero_le _, rfl, fun i hi => by omega, New.refl _⟩
    case round =>
      obtain ⟨k, hk, rfl, HS, hnew⟩ := hrel
      by_cases hkl : k < l.length
      · obtain ⟨x, hx⟩ : ∃ x, l[k]? = some x := ⟨_, List.getElem?_eq_getElem hkl⟩
        obtain ⟨y, hy⟩ : ∃ y, m[k]? = some y := ⟨_, List.getElem?_eq_getElem (by have := HLM.out; omega)⟩
        obtain ⟨b, off, rfl, hcell⟩ := HA.out (by rintro rfl; simp at hkl)
        obtain ⟨b', off', rfl, hcell'⟩ := HB.out (by rintro rfl; simp at hy)
        have c0 : wr.cell? ⟨b, off + k, none⟩ = some (.int .u8 x) := Fr.cell hnew (hcell k _ hx) id
        have d0 : wr.cell? ⟨b', off' + k, none⟩ = some (.int .u8 y) := Fr.cell hnew (hcell' k _ hy) id
        have HX := Lib.hid hx
        have HY := Lib.hid hy
        clear hcell hcell' hx hy
        cases hxy : (x != y)
        all_goals
          have HXY := Lib.hid hxy
          go_wp2_with fail
          go_quiet (fail)
          go_wp2
        · go_roundw
          case rel =>
            refine ⟨k + 1, by omega, by go_num, fun i hi => ?_, hnew.drewN _⟩
            rcases Nat.lt_or_ge i k with h | h
            · exact HS.out i h
            · obtain rfl : i = k := by omega
              have : x = y := by simpa using HXY.out
              rw [HX.out, HY.out, this]
          case measure => simp [intOf]; omega
        · go_ret
          have hne : q = false := by
            rw [← HQ.out]
            refine decide_eq_false fun e => ?_
            have h1 := HX.out
            rw [e, HY.out] at h1
            injection h1 with h1
            have h2 : x ≠ y := by simpa using HXY.out
            exact h2 h1.symm
          rw [hne]
          exact ⟨rfl, hnew.drewN _⟩
      · go_wp2
        go_ret
        have he : q = true := by
          rw [← HQ.out]
          refine decide_eq_true (List.ext_getElem? fun i => ?_)
          rcases Nat.lt_or_ge i k with h | h
          · exact HS.out i h
          · rw [List.getElem?_eq_none (by omega), List.getElem?_eq_none (by have := HLM.out; omega)]
        rw [he]
        exact ⟨rfl, hnew⟩
  · have hne : decide (l = m) = false := decide_eq_false fun e => hlm (by rw [e])
    rw [hne]
    have hb : ((l.length : Int) != (m.length : Int)) = true := by simp; omega
    clear hne hlm
    go_enter Tryz.func22, Tryz.ntmps22
    go_wp2
    go_ret
    exact ⟨rfl, New.refl _⟩

end Go.Proofs.YtdbbchifkjhfcaaGreat
end

section
/- StoreNil: the walk. -/
namespace Go.Proofs.YtdbbchifkjhfcaaGreat
open Go.RowKit Go.Maps

/-- The mailbox with one message, while the caller turns a row of his own. -/
structure NlR (w wr : World) (b2 : Nat) (s : Nat) (S : Sx) (Q : Qs) (X : List MB) (body : List Int) : Prop where
  st : STX w b2 wr S Q [⟨1, 0, body⟩] 2 1 1
  xm : X.map MB.m = [⟨1, 0, body⟩]
  tx : TBX b2 wr S.T X
  s_ : S.s = s

theorem NlR.more {w wr w' : World} {b2 s : Nat} {S : Sx} {Q : Qs} {X : List MB} {body : List Int} (h : NlR w wr b2 s S Q X body) (hn : New wr w') : NlR w w' b2 s S Q X body := ⟨h.st.more hn, h.xm, h.tx.new hn, h.s_⟩
theorem NlR.keep {w wr w' : World} {b2 s : Nat} {S : Sx} {Q : Qs} {X : List MB} {body : List Int} {R : Nat → Prop} (h : NlR w wr b2 s S Q X body) (hf : Fr R wr w') (hR : ∀ k, S.foot Q k → ¬ R k) (hB : ∀ x ∈ X, ∀ b, x.bv.ownBlock = some b → ¬ R b) (hR0 : ∀ k, R k → w.heap.size ≤ k) : NlR w w' b2 s S Q X body :=
  have h1 := h.st.keep2 h.xm h.tx hf hR hB hR0
  ⟨h1.1, h.xm, h1.2, h.s_⟩

set_option maxRecDepth 100000 in
set_option maxHeartbeats 6400000 in
theorem nil_law (x : Value × List Int) (uid : Int) (w : World) (hx : Rd (intE .u8) w x.1 x.2 ∧ (∀ y ∈ x.2, (Lit.int .u8 y).wf = true) ∧ x.2.length ≤ maxLen) (_hu0 : 0 ≤ uid) (_hu1 : uid ≤ 4294967295) :
    Calls Tryz.prog 6 #[x.1, .int .u32 uid] w fun e w' => e = .returned (.bool true) ∧ New w w' := by
  obtain ⟨v, body⟩ := x
  obtain ⟨hrd, _, hlm⟩ := hx
  dsimp only at hrd hlm ⊢
  unfold maxLen at hlm
  obtain ⟨i0, hi0, hz0, hz1, hz2⟩ := info_parts u8_info
  have HV := Lib.hid hrd
  obtain ⟨A, c, rfl, _⟩ := hrd
  by_cases hlen : body.length ≤ 200
  · have hd : decide (200 < body.length) = false := decide_eq_false (by omega)
    have hd' : decide ((200 : Int) < body.length) = false := decide_eq_false (by omega)
    go_enter Tryz.func6, Tryz.ntmps6
    go_wp2_with fail
    refine (snew_any 1 (by omega) (by omega) 3 (by omega) (by omega) 1 (by omega) (by omega) _).mono ?_
    rintro e w1 ⟨S, base, rfl, hcap, _, hS⟩
    rw [show max (1 : Int) 1 = 1 by decide] at hS
    have hnw1 := hS.new
    have h0 := Own.empty (intE .u8) 5 w1.heap.size w1 (Nat.le_refl _)
    have HS := Lib.hid hS
    have HCAP := Lib.hid hcap
    clear hS hcap
    go_wp2_with (first
      | (at_builtin; refine wpList_append (E := intE .u8) rfl _ _ _ rfl Tryz.underlying42 hi0 hz0 hz1 hz2 rfl h0 rfl ((HV.out.new hnw1).alloc _) rfl (by unfold maxLen; simp; omega) (by simp; omega) (by simp) ?_; intro v2 w2 hv2 hf2 hl2; obtain ⟨A2, N2, C2, hv2e⟩ := own_shape hv2; subst hv2e)
      | fail)
    rw [List.nil_append] at hv2
    have hn12 : New w1 w2 := New.append ((New.refl w1).alloc _) h0 hf2
    have hs2 := (HS.out.more hn12).rebase
    have hn2 : N2 = body.length := hv2.form.elim fun A h => h.elim fun c h => by injection h.1
    subst hn2
    have hs12 := hn12.size
    have hfar2 : ∀ b, (Value.slice A2 body.length C2).ownBlock = some b → ¬ S.foot Qs.none b := fun b hb hs => by
      have h1 := HS.out.foot_lt hs
      have h2 := (hv2.block hb).1
      omega
    have HAP := Lib.hid (sappend_any hs2 (by rw [HCAP.out]; decide) (by omega) (fun i hi => by cases hi) 0 (by omega) A2 body.length C2 body hv2.rd (by omega) (fun b hb _ => hfar2 b hb))
    have HV2 := Lib.hid hv2
    have HFAR2 := Lib.hid hfar2
    clear hs2 hn12 hf2 hl2 h0 hv2 hfar2
    go_wp2_with fail
    refine HAP.out.mono ?_
    rintro e w3 ⟨rfl, u', v', hS3, hF3, hu3, hv3⟩
    have hp3 := append_stp (p := fun _ => true) (ev := ⟨1, 1, 0⟩) hF3 hu3 hv3
    have hv3 := HV2.out.fr hF3 HFAR2.out
    have hfar3 : ∀ b, (Value.slice A2 body.length C2).ownBlock = some b → ¬ Sx.foot { S with u := u' } (Qs.told Qs.none (fun _ => true) ⟨1, 1, 0⟩ v') b := fun b hb => hp3.far (HV2.out.block hb).2 (HFAR2.out b hb)
    obtain ⟨X, hXm, hX⟩ := hS3.tbl
    obtain ⟨S3, Q3, hR3, hfar3⟩ : ∃ S3 Q3, NlR w w3 w2.heap.size S.s S3 Q3 X body ∧ ∀ b, (Value.slice A2 body.length C2).ownBlock = some b → ¬ S3.foot Q3 b := ⟨{ S with u := u' }, Qs.told Qs.none (fun _ => true) ⟨1, 1, 0⟩ v', ⟨hS3, hXm, hX, rfl⟩, hfar3⟩
    have hbx : ∀ y ∈ X, ∀ b, y.bv.ownBlock = some b → w2.heap.size ≤ b ∧ b < w3.heap.size := fun y hy b hb => (hX.body y hy).block hb
    have HPS : Hid (Value.pointer (some ⟨S3.s, 0, none⟩) = .pointer (some ⟨S.s, 0, none⟩)) := Lib.hid (by rw [hR3.s_])
    have hvb : ∀ b, (Value.slice A2 body.length C2).ownBlock = some b → w1.heap.size ≤ b ∧ b < w2.heap.size := fun b hb => HV2.out.block hb
    have hfm : findM [(⟨1, 0, body⟩ : Msg)] 1 = some ⟨1, 0, body⟩ := by simp [findM]
    have hg4 := sget_x hR3.st hR3.xm hR3.tx 1 (by omega) (by omega)
    rw [hfm, HPS.out] at hg4
    have HG4 := Lib.hid hg4
    have HFM := Lib.hid hfm
    have HR3 := Lib.hid hR3
    have HBX := Lib.hid hbx
    have HVB := Lib.hid hvb
    have HV3 := Lib.hid hv3
    have HF3 := Lib.hid hfar3
    have hs23 := hF3.size
    clear hS3 hF3 hu3 hv3 hp3 hXm hX hR3 hbx hvb hg4 hfm hfar3 HAP
    go_wp2_with fail
    refine HG4.out.mono ?_
    rintro e w4 ⟨⟨⟨yu, yf, yb⟩, yA, yn, yc⟩, rfl, hym, hyo, hS4, hp4, hX4⟩
    simp only [MB.val, MB.bv] at hyo ⊢
    have hym : (⟨yu, yf, yb⟩ : Msg) = ⟨1, 0, body⟩ := hym
    injection hym with e1 e2 e3
    subst e1 e2 e3
    have hyn : yn = yb.length := hyo.form.elim fun A h => h.elim fun c h => by injection h.1
    subst hyn
    have hR4 : NlR w w4 w2.heap.size S.s S3 Q3 X yb := ⟨hS4, HR3.out.xm, hX4, HR3.out.s_⟩
    have hs34 := hp4.fr.size
    obtain ⟨w5, hw5⟩ : ∃ w5, w5 = w4.alloc (.cells #[.int .u32 1, .int .u8 0, .slice yA yb.length yc] 55) := ⟨_, rfl⟩
    have hn5 : New w4 w5 := by rw [hw5]; exact (New.refl _).alloc _
    have bm5 : Blk w5 w4.heap.size 55 #[.int .u32 1, .int .u8 0, .slice yA yb.length yc] := by rw [hw5]; exact Blk.new _ _ _
    have HR5 := Lib.hid (hR4.more hn5)
    have HV5 := Lib.hid ((HV3.out.fr hp4.fr HF3.out).new hn5)
    have HY5 := Lib.hid (hyo.new hn5)
    have HW5 := Lib.hid hw5
    have hyb3 : ∀ b, (Value.slice yA yb.length yc).ownBlock = some b → w3.heap.size ≤ b := fun b hb => (hyo.block hb).1
    have HYB := Lib.hid hyb3
    have HFL : Hid (∀ k, S3.foot Q3 k → k < w3.heap.size) := Lib.hid (fun k hk => HR3.out.st.foot_lt hk)
    have HW1 : Hid (w.heap.size ≤ w1.heap.size) := Lib.hid hnw1.size
    clear hym hyo hS4 hp4 hX4 hR4 hw5 hn5 hyb3 HG4
    go_wp2
    rw [← HW5.out]
    go_loopw [48] (fun vi wr => ∃ (k : Nat) (l' : List Int), vi = .int .i64 k ∧ k ≤ yb.length ∧ l'.length = yb.length ∧ Own (intE .u8) 5 w1.heap.size wr (.slice A2 yb.length C2) l' ∧ Fr (fun b => (Value.slice A2 yb.length C2).ownBlock = some b) w5 wr) (fun vi _ => yb.length - (intOf vi).toNat)
    case atStart => exact ⟨0, yb, rfl, Nat.zero_le _, rfl, HV5.out, Fr.refl _ _⟩
    case round =>
      obtain ⟨k, l', rfl, hk, hl', hown, hfr⟩ := hrel
      by_cases hlt : k < yb.length
      · have hd2 : decide ((k : Int) < yb.length) = true := decide_eq_true (by omega)
        have hkI : (k : Int) < yb.length := by omega
        have hkw : IntKind.i64.wrap ((k : Int) + 1) = (k : Int) + 1 := IntWalk.i64_in _ (by omega)
        obtain ⟨g, rfl⟩ := hown.some_ (by omega)
        obtain ⟨y0, hy0⟩ : ∃ y0, l'[k]? = some y0 := ⟨_, List.getElem?_eq_getElem (by omega)⟩
        have ck : wr.cell? ⟨g, k, none⟩ = some (.int .u8 y0) := hown.icell hy0
        have zk := hown.ifrozen k
        obtain ⟨y1, hy1⟩ : ∃ y1, IntKind.u8.wrap (y0 + 1) = y1 := ⟨_, rfl⟩
        have hnext := hown.istored k y1
        have HNX := Lib.hid hnext
        have HFR := Lib.hid ((hfr.setCell (p := ⟨g, k, none⟩) (fun _ => rfl) (.int .u8 y1)))
        clear hy0 hnext hown hfr
        go_wp2
        go_roundw
        case rel => exact ⟨k + 1, l'.set k y1, by go_num, by omega, by simp; omega, HNX.out, HFR.out⟩
        case measure => simp [intOf]; omega
      · have hd2 : decide ((k : Int) < yb.length) = false := decide_eq_false (by omega)
        obtain ⟨wa, rfl⟩ : ∃ wa : World, wa = wr := ⟨_, rfl⟩
        have HRA := Lib.hid (HR5.out.keep hfr (fun k hk hs => HF3.out k hs hk) (fun x hx b hb hs => by have h1 := (HBX.out x hx b hb).1; have h2 := (HVB.out b hs).2; omega) (fun b hs => by have h2 := (HVB.out b hs).1; have := HW1.out; omega))
        have HYA := Lib.hid (HY5.out.fr hfr fun b hb hs => by have h1 := HYB.out b hb; have h2 := (HVB.out b hs).2; omega)
        have bma := hfr.blk bm5 (fun hs => by obtain ⟨cs, h1⟩ := HV5.out.heap hs; exact h1.ne_ bm5 (by decide) rfl)
        have hma : wa.cell? ⟨w4.heap.size, 2, none⟩ = some (.slice yA yb.length yc) := bma.cell 2
        clear hown hfr
        go_wp2
        go_loopw [61] (fun vi w' => ∃ (k : Nat) (l' : List Int), vi = .int .i64 k ∧ k ≤ yb.length ∧ l'.length = yb.length ∧ Own (intE .u8) 5 w3.heap.size w' (.slice yA yb.length yc) l' ∧ Fr (fun b => (Value.slice yA yb.length yc).ownBlock = some b) wa w') (fun vi _ => yb.length - (intOf vi).toNat)
        case atStart => exact ⟨0, yb, rfl, Nat.zero_le _, rfl, HYA.out, Fr.refl _ _⟩
        case round =>
          obtain ⟨k2, l2, rfl, hk2, hl2', hown, hfr⟩ := hrel
          have byr := hfr.blk bma (fun hs => by obtain ⟨cs, h1⟩ := HYA.out.heap hs; exact h1.ne_ bma (by decide) rfl)
          have cx : wr.cell? ⟨w4.heap.size, 2, none⟩ = some (.slice yA yb.length yc) := byr.cell 2
          by_cases hlt : k2 < yb.length
          · have hd2 : decide ((k2 : Int) < yb.length) = true := decide_eq_true (by omega)
            have hkI : (k2 : Int) < yb.length := by omega
            have hkw : IntKind.i64.wrap ((k2 : Int) + 1) = (k2 : Int) + 1 := IntWalk.i64_in _ (by omega)
            obtain ⟨g, rfl⟩ := hown.some_ (by omega)
            obtain ⟨y0, hy0⟩ : ∃ y0, l2[k2]? = some y0 := ⟨_, List.getElem?_eq_getElem (by omega)⟩
            have ck : wr.cell? ⟨g, k2, none⟩ = some (.int .u8 y0) := hown.icell hy0
            have zk := hown.ifrozen k2
            obtain ⟨y1, hy1⟩ : ∃ y1, IntKind.u8.wrap (y0 + 1) = y1 := ⟨_, rfl⟩
            have hnext := hown.istored k2 y1
            have HNX := Lib.hid hnext
            have HFR := Lib.hid ((hfr.setCell (p := ⟨g, k2, none⟩) (fun _ => rfl) (.int .u8 y1)))
            clear hy0 hnext hown hfr
            go_wp2
            go_roundw
            case rel => exact ⟨k2 + 1, l2.set k2 y1, by go_num, by omega, by simp; omega, HNX.out, HFR.out⟩
            case measure => simp [intOf]; omega
          · have hd2 : decide ((k2 : Int) < yb.length) = false := decide_eq_false (by omega)
            have hrb := HRA.out.keep hfr (fun k hk hs => by have h1 := HFL.out k hk; have h2 := HYB.out k hs; omega) (fun x hx b hb hs => by have h1 := (HBX.out x hx b hb).2; have h2 := HYB.out b hs; omega) (fun b hs => by have h2 := HYB.out b hs; have := HW1.out; omega)
            have hg6 := sget_any hrb.st 1 (by omega) (by omega)
            rw [HFM.out, HPS.out] at hg6
            have HG6 := Lib.hid hg6
            clear hown hfr hrb hg6
            go_wp2_with fail
            refine HG6.out.mono ?_
            rintro e w6 ⟨⟨⟨zu, zf, zb⟩, zA, zn, zc⟩, rfl, hzm, hzo, hS6, _⟩
            simp only [MB.val, MB.bv] at hzo ⊢
            have hzm : (⟨zu, zf, zb⟩ : Msg) = ⟨1, 0, yb⟩ := hzm
            injection hzm with e1 e2 e3
            subst e1 e2 e3
            have hzn : zn = zb.length := hzo.form.elim fun A h => h.elim fun c h => by injection h.1
            subst hzn
            have HN6 := Lib.hid hS6.new
            have HZ6 := Lib.hid hzo
            clear hzm hzo hS6 HG6
            obtain ⟨w7, hw7⟩ : ∃ w7, w7 = w6.alloc (.cells #[.int .u32 1, .int .u8 0, .slice zA zb.length zc] 55) := ⟨_, rfl⟩
            have hn7 : New w6 w7 := by rw [hw7]; exact (New.refl _).alloc _
            have bz7 : Blk w7 w6.heap.size 55 #[.int .u32 1, .int .u8 0, .slice zA zb.length zc] := by rw [hw7]; exact Blk.new _ _ _
            have HW7 := Lib.hid hw7
            clear hw7
            go_wp2_with fail
            rw [← HW7.out]
            refine (nsub _ 1).mono ?_
            rintro e w' ⟨rfl, rfl⟩
            go_wp2_with fail
            refine (napp _ 0 _).mono ?_
            rintro e w8 ⟨rfl, rfl⟩
            go_wp2_with fail
            refine (nchange _ 0 uid 0 0).mono ?_
            rintro e w9 ⟨rfl, hn9⟩
            go_wp2_with fail
            refine (nget _ uid).mono ?_
            rintro e w10 ⟨rfl, hn10⟩
            have hn710 : New _ w10 := hn9.trans hn10
            have bz10 := hn710.blk bz7
            have HZ10 := Lib.hid ((HZ6.out.new hn7).new hn710)
            have HN10 := Lib.hid ((HN6.out.trans hn7).trans hn710)
            obtain ⟨w11, hw11⟩ : ∃ w11, w11 = w10.alloc (.cells #[.int .u32 0, .int .u8 0, .slice none 0 0] 55) := ⟨_, rfl⟩
            have hn11 : New w10 w11 := by rw [hw11]; exact (New.refl _).alloc _
            have HW11 := Lib.hid hw11
            have HN11 := Lib.hid hn11
            clear hw11 hn9 hn10 hn710 hn11
            go_wp2_with fail
            rw [← HW11.out]
            refine (malive_any _).mono ?_
            rintro e w12 ⟨rfl, hn12⟩
            have hn1012 : New _ w12 := HN11.out.trans hn12
            have bz12 := hn1012.blk bz10
            have hz12 : w12.cell? ⟨w6.heap.size, 2, none⟩ = some (.slice zA zb.length zc) := bz12.cell 2
            have HE := Lib.hid (bequal_any _ _ zb zb _ (HZ10.out.new hn1012).rd (HV.out.new (HN10.out.trans hn1012)) (by omega) (by omega))
            have HN12 := Lib.hid (HN10.out.trans hn1012)
            clear hn12 hn1012 bz10
            go_wp2_with fail
            refine HE.out.mono ?_
            first | rw [decide_eq_true rfl] | rw [decide_true]
            rintro e w13 ⟨rfl, hn13⟩
            go_wp2_with fail
            refine (nunsub _ 1).mono ?_
            rintro e w14 ⟨rfl, rfl⟩
            go_wp2_with fail
            refine (nflush _ 1 true).mono ?_
            rintro e w15 ⟨rfl, rfl⟩
            go_wp2_with fail
            refine (npending _ 1).mono ?_
            rintro e w16 ⟨rfl, rfl⟩
            go_wp2_with fail
            refine (nexpunge _).mono ?_
            rintro e w17 ⟨rfl, rfl⟩
            go_wp2_with fail
            refine (nuids _).mono ?_
            rintro e w18 ⟨rfl, rfl⟩
            go_wp2_with fail
            refine (nnext _).mono ?_
            rintro e w19 ⟨rfl, rfl⟩
            go_wp2_with fail
            refine (nvalidity _).mono ?_
            rintro e w20 ⟨rfl, rfl⟩
            go_wp2_with fail
            refine (nstripes _).mono ?_
            rintro e w21 ⟨rfl, rfl⟩
            go_wp2
            go_ret
            exact ⟨rfl, HN12.out.trans hn13⟩
  · have hd : decide (200 < body.length) = true := decide_eq_true (by omega)
    have hd' : decide ((200 : Int) < body.length) = true := decide_eq_true (by omega)
    go_enter Tryz.func6, Tryz.ntmps6
    go_wp2_with fail
    refine (malive_any _).mono ?_
    rintro e w2 ⟨rfl, hn2⟩
    go_wp2
    go_ret
    exact ⟨rfl, hn2⟩

/-- The law, its arguments in order. -/
theorem nil_any (x : Value × List Int) (uid : Int) (w : World) (hx : Rd (intE .u8) w x.1 x.2 ∧ (∀ y ∈ x.2, (Lit.int .u8 y).wf = true) ∧ x.2.length ≤ maxLen) (h0 : 0 ≤ uid) (h1 : uid ≤ 4294967295) :
    Calls Tryz.prog 6 #[x.1, .int .u32 uid] w fun e w' => e = .returned (.bool true) ∧ New w w' := nil_law x uid w hx h0 h1

end Go.Proofs.YtdbbchifkjhfcaaGreat
end

