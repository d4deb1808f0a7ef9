/- IndexPlays: the walk. -/
import Derived.Test.YtmhhmenhfocfjaaIdxBetween
import Derived.Test.YtmhhmenhfocfjaaOpen12
namespace Go.Proofs.Ytmhhmenhfocfjaa
open Go.RowKit

/-- What stands between two calls: the index, and the reference's row apart from it. -/
structure Both (w0 wr : World) (x : Nat) (u v : Value) (s : List Int) : Prop where
  idx : IdxU w0.heap.size wr x u s
  xge : w0.heap.size ≤ x
  own : Own (intE .u32) 28 w0.heap.size wr v s
  asc : Asc s
  apart : ∀ b, v.ownBlock = some b → b ≠ x ∧ u.ownBlock ≠ some b
  new : New w0 wr

theorem Both.more {w0 wr w' : World} {x : Nat} {u v : Value} {s : List Int} (h : Both w0 wr x u v s) (hn : New wr w') : Both w0 w' x u v s :=
  ⟨h.idx.new hn, h.xge, h.own.new hn, h.asc, h.apart, h.new.trans hn⟩

/-- The index has turned; the row has not. -/
theorem Both.turn {w0 wr w' : World} {x : Nat} {u u' v : Value} {s s' : List Int} (h : Both w0 wr x u v s) (_ : IdxU w0.heap.size w' x u' s') (hf : IFr x u wr w') (hs : Stays wr u u') :
    Own (intE .u32) 28 w0.heap.size w' v s ∧ (∀ b, v.ownBlock = some b → b ≠ x ∧ u'.ownBlock ≠ some b) ∧ New w0 w' := by
  refine ⟨h.own.fr hf fun b hb hS => ?_, fun b hb => ⟨(h.apart b hb).1, fun e => ?_⟩, IFr.new h.new hf h.xge h.idx.ge⟩
  · rcases hS with hS | hS
    · exact (h.apart b hb).1 hS
    · exact (h.apart b hb).2 hS
  · rcases hs with hs | ⟨b', hb', hge⟩
    · exact (h.apart b hb).2 (hs ▸ e)
    · rw [hb'] at e
      cases e
      have := (h.own.block hb).2
      omega

theorem Stays.back {w W : World} {u u' : Value} (h : Stays W u u') (hs : w.heap.size ≤ W.heap.size) : Stays w u u' := by
  rcases h with h | ⟨b, h1, h2⟩
  · exact .inl h
  · exact .inr ⟨b, h1, Nat.le_trans hs h2⟩

/-- Both have turned alike: the row first, then the index. -/
theorem Both.step {w0 wr w2 w3 : World} {x : Nat} {u u' v v1 : Value} {s s1 : List Int} (h : Both w0 wr x u v s) (ho : Own (intE .u32) 28 w0.heap.size w2 v1 s1) (hst : Stays wr v v1) (hn : New wr w2)
    (hi : IdxU w0.heap.size w3 x u' s1) (hf : IFr x u w2 w3) (hst' : Stays w2 u u') (ha : Asc s1) : Both w0 w3 x u' v1 s1 := by
  have hx := h.idx.1.lt
  have h2 := h.idx.new hn
  have hap : ∀ b, v1.ownBlock = some b → b ≠ x ∧ u.ownBlock ≠ some b := fun b hb => by
    rcases hst with hs | ⟨b', hb', hge⟩
    · exact h.apart b (hs ▸ hb)
    · rw [hb'] at hb
      cases hb
      refine ⟨by omega, fun e => ?_⟩
      have := (h.idx.2.1.block e).2
      omega
  refine ⟨hi, h.xge, ho.fr hf fun b hb hS => ?_, ha, fun b hb => ⟨(hap b hb).1, fun e => ?_⟩, IFr.new (h.new.trans hn) hf h.xge h2.ge⟩
  · rcases hS with hS | hS
    · exact (hap b hb).1 hS
    · exact (hap b hb).2 hS
  · rcases hst' with hs | ⟨b', hb', hge⟩
    · exact (hap b hb).2 (hs ▸ e)
    · rw [hb'] at e
      cases e
      have := (ho.block hb).2
      omega

/-- The index has turned, the row has been made anew. -/
theorem Both.anew {w0 wr w3 w4 : World} {x : Nat} {u u' v1 : Value} {v : Value} {s s1 : List Int} (h : Both w0 wr x u v s) (hi : IdxU w0.heap.size w3 x u' s1) (hf : IFr x u wr w3) (ho : Own (intE .u32) 28 w3.heap.size w4 v1 s1) (hn : New w3 w4) (ha : Asc s1) : Both w0 w4 x u' v1 s1 := by
  have hx := hi.1.lt
  have h3 : New w0 w3 := IFr.new h.new hf h.xge h.idx.ge
  refine ⟨hi.new hn, h.xge, ho.mono h3.size, ha, fun b hb => ?_, h3.trans hn⟩
  have h1 := (ho.block hb).1
  refine ⟨by omega, fun e => ?_⟩
  have := (hi.2.1.block e).2
  omega

set_option maxRecDepth 100000 in
set_option maxHeartbeats 3200000 in
theorem plays_law (x : Value × List Int) (y : Value × List (Int × Int)) (w : World) (h : Rd (intE .u32) w x.1 x.2 ∧ (∀ y ∈ x.2, (Lit.int .u32 y).wf = true) ∧ x.2.length ≤ maxLen) (hy : Rd iopE w y.1 y.2 ∧ (∀ z ∈ y.2, iopOk z) ∧ y.2.length ≤ maxLen) :
    Calls Try.prog 5 #[x.1, y.1] w fun e w' => e = .returned (.bool true) ∧ New w w' := by
  obtain ⟨v, l⟩ := x
  obtain ⟨v', ops⟩ := y
  obtain ⟨hv, hw, _⟩ := h
  obtain ⟨hv', _, _⟩ := hy
  dsimp only at hv hw hv' ⊢
  obtain ⟨h0, _⟩ := wf_ge hw rfl
  have HV := Lib.hid hv
  obtain ⟨A, c, rfl, hc, _⟩ := hv
  obtain ⟨A', c', rfl, hc', hcells⟩ := hv'
  have HCO := Lib.hid hcells
  clear hcells
  rcases Nat.lt_or_ge 100 l.length with hl | hl
  · have hd : decide ((100 : Int) < l.length) = true := decide_eq_true (by omega)
    go_enter Try.func5, Try.ntmps5
    go_wp2_with fail
    refine (alive_any _).mono ?_
    rintro e w1 ⟨rfl, hn1⟩
    go_wp2
    go_ret
    exact ⟨rfl, hn1⟩
  have hd1 : decide ((100 : Int) < l.length) = false := decide_eq_false (by omega)
  rcases Nat.lt_or_ge 100 ops.length with hlo | hlo
  · have hd : decide ((100 : Int) < ops.length) = true := decide_eq_true (by omega)
    go_enter Try.func5, Try.ntmps5
    go_wp2_with fail
    refine (alive_any _).mono ?_
    rintro e w1 ⟨rfl, hn1⟩
    go_wp2
    go_ret
    exact ⟨rfl, hn1⟩
  have hd2 : decide ((100 : Int) < ops.length) = false := decide_eq_false (by omega)
  have ha := idxOf_asc l h0
  have hsl := idxOf_len l
  have HQ := Lib.hid (fun w2 (h : New w w2) => qrnew (HV.out.new h) (by omega) h0)
  obtain ⟨s, hs⟩ : ∃ s, idxOf l = s := ⟨_, rfl⟩
  rw [hs] at ha hsl
  have HA := Lib.hid ha.1
  have HNW := Lib.hid (qnew HV.out (by omega))
  rw [hs] at HNW HQ
  clear hs ha hw h0
  go_enter Try.func5, Try.ntmps5
  go_wp2_with fail
  refine HNW.out.mono ?_
  rintro e w1 ⟨x, u, rfl, hx, h1, hn1⟩
  go_wp2_with fail
  refine (HQ.out w1 hn1).mono ?_
  rintro e w2 ⟨o, rfl, ho2, hn2⟩
  have hb0 : Both w w2 x u o s := ⟨h1.new hn2, hx, ho2.mono hn1.size, HA.out, fun b hb => by
    have h3 := (ho2.block hb).1
    have h4 := h1.1.lt
    refine ⟨by omega, fun e => ?_⟩
    have := (h1.2.1.block e).2
    omega, hn1.trans hn2⟩
  obtain ⟨oA, oc, rfl, _⟩ := ho2.form
  have HB0 := Lib.hid hb0
  clear hb0 h1 ho2 hn1 hn2 hx
  go_wp2
  go_loopw [6, 28] (fun vo vi wr => ∃ (k : Nat) (s : List Int) (u A : Value), vo = A ∧ vi = .int .i64 k ∧ k ≤ ops.length ∧ s.length ≤ 100 + k ∧ Hid (Both w wr x u vo s)) (fun _ vi _ => ops.length - (intOf vi).toNat)
  case atStart => exact ⟨0, s, u, _, rfl, rfl, Nat.zero_le _, by omega, HB0.out⟩
  case round =>
    obtain ⟨k, s, u, _, rfl, rfl, hk, hsk, HB⟩ := hrel
    clear HB0
    obtain ⟨oA, oc, rfl, _⟩ := HB.out.own.form
    by_cases hlt : k < ops.length
    · have hd : decide ((k : Int) < ops.length) = true := decide_eq_true (by omega)
      obtain ⟨⟨kd, uid⟩, hop⟩ : ∃ y, ops[k]? = some y := ⟨_, List.getElem?_eq_getElem hlt⟩
      obtain ⟨b, off, rfl, hcell⟩ := HCO.out (by rintro rfl; simp at hlt)
      have c0 : wr.cell? ⟨b, off + k * 2, none⟩ = some (.int .i64 kd) := Fr.cell HB.out.new (hcell k _ hop 0 _ rfl) id
      have c1 : wr.cell? ⟨b, off + k * 2 + 1, none⟩ = some (.int .u32 uid) := Fr.cell HB.out.new (hcell k _ hop 1 _ rfl) id
      have hkI : (k : Int) < ops.length := by omega
      have hkw : IntKind.i64.wrap ((k : Int) + 1) = (k : Int) + 1 := IntWalk.i64_in _ (by omega)
      clear hop hcell
      have HB1 := Lib.hid (HB.out.more ((New.refl wr).alloc (.cells #[.int .i64 kd, .int .u32 uid] 37)))
      have hbx := Blk.new wr 37 #[.int .i64 kd, .int .u32 uid]
      have hbx1 : ∀ n, ((wr.alloc (.cells #[.int .i64 kd, .int .u32 uid] 37)).drewN n).cell? ⟨wr.heap.size, 1, none⟩ = some (.int .u32 uid) := fun n => hbx.cell 1
      have hxl := HB.out.idx.1.lt
      have hus := HB1.out.new.size
      have hul := fun b hb => (HB.out.idx.2.1.block (b := b) hb).2
      have HUL := Lib.hid hul
      clear hul
      cases hq : (kd == 0)
      · obtain ⟨s1, hs1⟩ : ∃ s1, (s.filter fun y => y != uid) = s1 := ⟨_, rfl⟩
        have ha1 : Asc s1 := by rw [← hs1]; exact HB.out.asc.filter _
        have hl1 : s1.length ≤ s.length := by rw [← hs1]; exact List.length_filter_le _ _
        obtain ⟨pl, hpl⟩ : ∃ pl, placeOf s uid = pl := ⟨_, rfl⟩
        have HS1 := Lib.hid hs1
        have HA1 := Lib.hid ha1
        have HPL := Lib.hid hpl
        clear hs1 ha1 hpl
        go_wp2_with fail
        obtain ⟨wq, hwq⟩ : ∃ wq, wq = wr.alloc (.cells #[.int .i64 kd, .int .u32 uid] 37) := ⟨_, rfl⟩
        rw [← hwq] at HB1 hbx hbx1 hus ⊢
        have hwqs : wq.heap.size = wr.heap.size + 1 := by rw [hwq]; simp
        have hb10 := hbx1 0
        have hb10' : wq.cell? ⟨wr.heap.size, 1, none⟩ = some (.int .u32 uid) := hb10
        clear hwq hb10
        go_region_held3 (fun w' => w'.cell? ⟨wr.heap.size, 1, none⟩ = some (.int .u32 uid)) (first | go_keep | assumption)
          ((first
            | (go_at_call 11
               refine (qrm (HB1.out.idx.new (by first | exact (New.refl wq).drew | exact (New.refl wq).drewN _ | exact New.refl wq | exact hnq5 | exact hnq5.drew)) HB1.out.asc (by omega) uid).mono ?_
               rw [HS1.out, HPL.out]
               rintro e w3 ⟨u3, rfl, hi3, hf3, hst3⟩
               have c3 : w3.cell? ⟨wr.heap.size, 1, none⟩ = some (.int .u32 uid) := Fr.cell hf3 (by first | exact hb10' | assumption) (fun h => by rcases h with h | h; (simp at h; omega); (have := HUL.out _ h; simp at this))
               have hq3 : Hid (IFr x u wq w3) := Fr.trans' (New.to (by first | exact (New.refl wq).drew | exact (New.refl wq).drewN _ | exact New.refl wq | exact hnq5 | exact hnq5.drew : New wq _)) hf3 fun _ _ h => h
               have hv3 := Lib.hid (HB1.out.turn hi3 hq3.out (hst3.back (Fr.size (by first | exact (New.refl wq).drew | exact (New.refl wq).drewN _ | exact New.refl wq | exact hnq5 | exact hnq5.drew : New wq _)))))
            | (go_at_call 14
               first
               | (refine (qrpos (hv3.out.1).rd (by omega) uid).mono ?_
                  rw [HPL.out]
                  rintro e w5 ⟨rfl, hn5⟩
                  have c5 : w5.cell? ⟨wr.heap.size, 1, none⟩ = some (.int .u32 uid) := Fr.cell hn5 c3 id)
               | (refine (qrpos (HB1.out.own.new (by first | exact (New.refl wq).drew | exact (New.refl wq).drewN _ | exact New.refl wq | exact hnq5 | exact hnq5.drew)).rd (by omega) uid).mono ?_
                  rw [HPL.out]
                  rintro e w5 ⟨rfl, hn5⟩
                  have hnq5 : New wq w5 := Fr.trans (by first | exact (New.refl wq).drew | exact (New.refl wq).drewN _ | exact New.refl wq | exact hnq5 | exact hnq5.drew) hn5
                  have c5 : w5.cell? ⟨wr.heap.size, 1, none⟩ = some (.int .u32 uid) := Fr.cell hnq5 hb10' id))
            | fail))
        have HI5 := Lib.hid (hi3.new hn5)
        have HF5 : Hid (IFr x u wq w5) := Fr.trans' hq3.out hn5 fun _ _ h => h.elim
        have HR5 := Lib.hid (hv3.out.1.new hn5)
        clear hi3 hf3 hst3
        go_wp2_with fail
        refine (rremove_any HR5.out.rd (by omega) uid).mono ?_
        rw [HS1.out]
        rintro e w6 ⟨o6, rfl, ho6, hn6⟩
        have HB5 := Lib.hid (HB1.out.anew HI5.out HF5.out ho6 hn6 HA1.out)
        obtain ⟨A1, c1', rfl, _⟩ := ho6.form
        clear ho6 hn6
        go_wp2_with fail
        refine (ilen_any HB5.out.idx.at_).mono ?_
        rintro e w6 ⟨rfl, rfl⟩
        go_wp2_with fail
        refine (iall_any HB5.out.idx.at_ (by omega)).mono ?_
        rintro e w7 ⟨o7, rfl, ho7, hn7⟩
        obtain ⟨A7, c7, rfl, _⟩ := ho7.form
        have HB7 := Lib.hid (HB5.out.more hn7)
        go_wp2_with fail
        refine (uequal_any _ _ _ _ _ ho7.rd HB7.out.own.rd (by omega) (by omega)).mono ?_
        rw [decide_eq_true rfl]
        rintro e w8 ⟨rfl, hn8⟩
        have HB8 := Lib.hid (HB7.out.more hn8)
        go_wp2
        go_roundw
        case rel => exact ⟨k + 1, _, _, _, rfl, by go_num, by omega, by omega, HB8.out⟩
        case measure => simp [intOf]; omega
      · obtain ⟨s1, hs1⟩ : ∃ s1, (appP s uid).1 = s1 := ⟨_, rfl⟩
        obtain ⟨q, hqq⟩ : ∃ q, (appP s uid).2 = q := ⟨_, rfl⟩
        have ha1 : Asc s1 := by rw [← hs1]; exact HB.out.asc.app uid
        have hl1 : s1.length ≤ s.length + 1 := by rw [← hs1]; exact appP_length _ _
        have HS1 := Lib.hid hs1
        have HQQ := Lib.hid hqq
        have HA1 := Lib.hid ha1
        clear hs1 hqq ha1
        go_wp2_with fail
        refine (rapp_any HB1.out.own HB1.out.new.size (by omega) uid).mono ?_
        rw [HS1.out, HQQ.out]
        rintro e w2 ⟨A1, n1, c1', rfl, ho2, hst2, hn2⟩
        have c2 : w2.cell? ⟨wr.heap.size, 1, none⟩ = some (.int .u32 uid) := Fr.cell hn2 (hbx.cell 1) id
        have hs2 := hn2.size
        go_wp2_with fail
        refine (qapp (HB1.out.idx.new hn2) HB1.out.asc (Nat.le_trans HB1.out.new.size hn2.size) (by omega) uid).mono ?_
        rw [HS1.out, HQQ.out]
        rintro e w3 ⟨u3, rfl, hi3, hf3, hst3⟩
        have HB5 := Lib.hid (HB1.out.step ho2 hst2 hn2 hi3 hf3 hst3 HA1.out)
        have hnl : n1 = s1.length := by
          obtain ⟨_, _, he, _⟩ := ho2.form
          injection he
        subst hnl
        clear hi3 hf3 hst3 ho2 hst2 hn2
        cases q
        all_goals
          go_wp2_with fail
          refine (ilen_any HB5.out.idx.at_).mono ?_
          rintro e w6 ⟨rfl, rfl⟩
          go_wp2_with fail
          refine (iall_any HB5.out.idx.at_ (by omega)).mono ?_
          rintro e w7 ⟨o7, rfl, ho7, hn7⟩
          obtain ⟨A7, c7, rfl, _⟩ := ho7.form
          have HB7 := Lib.hid (HB5.out.more hn7)
          go_wp2_with fail
          refine (uequal_any _ _ _ _ _ ho7.rd HB7.out.own.rd (by omega) (by omega)).mono ?_
          rw [decide_eq_true rfl]
          rintro e w8 ⟨rfl, hn8⟩
          have HB8 := Lib.hid (HB7.out.more hn8)
          go_wp2
          go_roundw
          case rel => exact ⟨k + 1, _, _, _, rfl, by go_num, by omega, by omega, HB8.out⟩
          case measure => simp [intOf]; omega
    · have hd : decide ((k : Int) < ops.length) = false := decide_eq_false (by omega)
      go_wp2_with fail
      refine (alive_any _).mono ?_
      rintro e w6 ⟨rfl, hn6⟩
      go_wp2
      go_ret
      exact ⟨rfl, HB.out.new.trans hn6⟩

end Go.Proofs.Ytmhhmenhfocfjaa
