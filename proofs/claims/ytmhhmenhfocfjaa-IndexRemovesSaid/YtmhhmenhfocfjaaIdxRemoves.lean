/- IndexRemoves: the walk. -/
import Derived.Test.YtmhhmenhfocfjaaIdxBetween
namespace Go.Proofs.Ytmhhmenhfocfjaa
open Go.RowKit

/-- The place, after the identifier at place i (from 0) is gone. -/
theorem place_gone {s : List Int} (h : Asc s) {i j : Nat} {x y : Int} (hi : s[i]? = some x) (hj : s[j]? = some y) :
    placeOf (s.filter fun z => z != x) y = if j = i then 0 else if j > i then (j : Int) else (j : Int) + 1 := by
  by_cases he : j = i
  · subst he
    rw [hi] at hj
    cases hj
    rw [if_pos rfl]
    exact placeOf_none (by simp)
  · rw [if_neg he]
    have ha := h.filter fun z => z != x
    rw [← eraseIdx_filter h hi] at ha ⊢
    by_cases hg : j > i
    · rw [if_pos hg]
      have := placeOf_at ha (k := j - 1) (u := y) (by rw [List.getElem?_eraseIdx, if_neg (by omega), show j - 1 + 1 = j by omega]; exact hj)
      rw [this]
      omega
    · rw [if_neg hg]
      exact placeOf_at ha (by rw [List.getElem?_eraseIdx, if_pos (by omega)]; exact hj)

theorem filter_len1 {s : List Int} (h : Asc s) {i : Nat} {x : Int} (hi : s[i]? = some x) : (s.filter fun z => z != x).length = s.length - 1 := by
  rw [← eraseIdx_filter h hi]
  exact List.length_eraseIdx_of_lt (List.getElem?_eq_some_iff.1 hi).1

set_option maxHeartbeats 6400000 in
theorem removes_law (x : Value × List Int) (k : Int) (w : World) (h : Rd (intE .u32) w x.1 x.2 ∧ (∀ y ∈ x.2, (Lit.int .u32 y).wf = true) ∧ x.2.length ≤ maxLen) (hk0 : 0 ≤ k) (hk1 : k ≤ 255) :
    Calls Try.prog 3 #[x.1, .int .u8 k] w fun e w' => e = .returned (.bool true) ∧ New w w' := by
  obtain ⟨v, l⟩ := x
  obtain ⟨hv, hw, hlm⟩ := h
  dsimp only at hv hw hlm ⊢
  obtain ⟨h0, _⟩ := wf_ge hw rfl
  obtain ⟨kn, rfl⟩ := Int.eq_ofNat_of_zero_le hk0
  have HV := Lib.hid hv
  obtain ⟨A, c, rfl, hc, _⟩ := hv
  have hlm' : l.length ≤ 9223372036854775807 := by unfold maxLen at hlm; omega
  rcases Nat.lt_or_ge 100 l.length with hl | hl
  · have HT := Lib.hid (Rd.take HV.out (k := 100) (by omega))
    have h0' : ∀ y ∈ l.take 100, 0 ≤ y := fun y hy => h0 y (List.mem_of_mem_take hy)
    have HQ := Lib.hid (qrnew HT.out (by rw [List.length_take]; omega) h0')
    have hc100 : (100 : Int) ≤ c := by omega
    have hl100 : ¬ (l.length : Int) ≤ 100 := by omega
    have hmin : min (l.length : Int) 100 = 100 := by omega
    have hgt : decide ((100 : Int) < l.length) = true := decide_eq_true (by omega)
    clear h0 h0' hw
    go_enter Try.func3, Try.ntmps3
    go_wp2_with fail
    refine HQ.out.mono ?_
    rintro e w1 ⟨o, rfl, ho1, hn1⟩
    obtain ⟨oA, oc, rfl, _⟩ := ho1.form
    go_wp2_with fail
    refine (alive_any _).mono ?_
    rintro e w2 ⟨rfl, hn2⟩
    go_wp2
    go_ret
    exact ⟨rfl, hn1.trans hn2⟩
  · have ha := idxOf_asc l h0
    have hsl := idxOf_len l
    have HQ := Lib.hid (qrnew HV.out (by omega) h0)
    obtain ⟨s, hs⟩ : ∃ s, idxOf l = s := ⟨_, rfl⟩
    rw [hs] at ha hsl
    have HA := Lib.hid ha.1
    have HNW := Lib.hid (fun w2 (h : New w w2) => qnew (HV.out.new h) (by omega))
    rw [hs] at HNW HQ
    have hmin : min (l.length : Int) 100 = l.length := by omega
    have hlc : (l.length : Int) ≤ c := by omega
    have hgt : decide ((100 : Int) < l.length) = false := decide_eq_false (by omega)
    clear hs ha hw h0
    by_cases hs0 : s.length = 0
    · go_enter Try.func3, Try.ntmps3
      go_wp2_with fail
      refine HQ.out.mono ?_
      rintro e w1 ⟨o, rfl, ho1, hn1⟩
      obtain ⟨oA, oc, rfl, _⟩ := ho1.form
      rw [hs0]
      clear hs0
      go_wp2_with fail
      refine (alive_any _).mono ?_
      rintro e w2 ⟨rfl, hn2⟩
      go_wp2
      go_ret
      exact ⟨rfl, hn1.trans hn2⟩
    · obtain ⟨i, hi⟩ : ∃ i, kn % s.length = i := ⟨_, rfl⟩
      have hil : i < s.length := by rw [← hi]; exact Nat.mod_lt _ (by omega)
      have hmod : (kn : Int) % (s.length : Int) = (i : Int) := by rw [← hi]; exact (Int.natCast_emod kn s.length).symm
      obtain ⟨z, hz⟩ : ∃ z, s[i]? = some z := ⟨_, List.getElem?_eq_getElem hil⟩
      have hw1 : IntKind.i64.wrap ((i : Int) + 1) = (i : Int) + 1 := IntWalk.i64_in _ (by omega)
      have hiI : (i : Int) < s.length := by omega
      obtain ⟨s', hs'⟩ : ∃ s', (s.filter fun y => y != z) = s' := ⟨_, rfl⟩
      have ha' : Asc s' := by rw [← hs']; exact HA.out.filter _
      have hl' : s'.length = s.length - 1 := by rw [← hs']; exact filter_len1 HA.out hz
      have hpz := placeOf_at HA.out hz
      have hpz' : placeOf s' z = 0 := by rw [← hs']; exact placeOf_none (by simp)
      have hff : (s'.filter fun y => y != z) = s' := by rw [← hs', List.filter_filter]; simp
      have HPL := Lib.hid (fun (j : Nat) (y : Int) (hj : s[j]? = some y) => (by rw [← hs']; exact place_gone HA.out hz hj : placeOf s' y = if j = i then 0 else if j > i then (j : Int) else (j : Int) + 1))
      have HA' := Lib.hid ha'
      have HL' := Lib.hid hl'
      have HPZ := Lib.hid hpz
      have HPZ' := Lib.hid hpz'
      have HFF := Lib.hid hff
      have HS' := Lib.hid hs'
      have HZ := Lib.hid hz
      have hl'2 : s'.length ≤ 100000 := by omega
      have hfl : IntKind.i64.wrap ((s.length : Int) - 1) = (s'.length : Int) := by rw [IntWalk.i64_in _ (by omega)]; omega
      have hfl2 : (s.length : Int) - 1 = (s'.length : Int) := by omega
      clear hi hs' ha' hl' hpz hpz' hff hz hs0
      go_enter Try.func3, Try.ntmps3
      go_wp2_with fail
      refine HQ.out.mono ?_
      rintro e w1 ⟨o, rfl, ho1, hn1⟩
      obtain ⟨oA, oc, rfl, _⟩ := ho1.form
      obtain ⟨g, rfl⟩ := ho1.some1 (by omega)
      go_wp2_with fail
      refine (HNW.out w1 hn1).mono ?_
      rintro e w2 ⟨x, u, rfl, hx, h2, hn2⟩
      have ho2 := ho1.new hn2
      have hap : ∀ b, u.ownBlock = some b → g ≠ b := fun b hb => by have := h2.ge b hb; have := (ho1.block (b := g) rfl).2; omega
      have cz2 : w2.cell? ⟨g, i, none⟩ = some (.int .u32 z) := ho2.icell HZ.out
      go_wp2_with fail
      refine (qrm h2 HA.out (by omega) z).mono ?_
      rw [HPZ.out, HS'.out]
      rintro e w3 ⟨u3, rfl, h3, hf3, hst3⟩
      have hgx : g ≠ x := by have := (ho1.block (b := g) rfl).2; omega
      have cz3 : w3.cell? ⟨g, i, none⟩ = some (.int .u32 z) := Fr.cell hf3 cz2 (fun h => by rcases h with h | h; exact hgx h; exact hap g h rfl)
      have ho3 : Own (intE .u32) 28 w.heap.size w3 (.slice (some ⟨g, 0, none⟩) s.length oc) s := ho2.fr hf3 fun b hb h => by cases hb; rcases h with h | h; exact hgx h; exact hap g h rfl
      have hn3 : New w w3 := IFr.new (hn1.trans hn2) hf3 (by have := hn1.size; omega) fun b hb => by have := h2.ge b hb; have := hn1.size; omega
      go_wp2_with fail
      refine (qrm h3 HA'.out hl'2 z).mono ?_
      rw [HPZ'.out, HFF.out]
      rintro e w4 ⟨u4, rfl, h4, hf4, hst4⟩
      have hap3 : ∀ b, u3.ownBlock = some b → g ≠ b := fun b hb => by
        rcases hst3 with h | ⟨b', h, h'⟩
        · exact hap b (h ▸ hb)
        · rw [h] at hb; cases hb; have := (ho2.block (b := g) rfl).2; omega
      have ho4 : Own (intE .u32) 28 w.heap.size w4 (.slice (some ⟨g, 0, none⟩) s.length oc) s := ho3.fr hf4 fun b hb h => by cases hb; rcases h with h | h; exact hgx h; exact hap3 g h rfl
      have hn4 : New w w4 := IFr.new hn3 hf4 (by have := hn1.size; omega) fun b hb => by have := h3.ge b hb; have := hn1.size; omega
      have H4 := Lib.hid h4
      have HO4 := Lib.hid ho4
      clear h2 h3 h4 ho1 ho2 ho3 ho4 cz2 cz3 hst3 hst4 hap hap3
      go_wp2
      obtain ⟨wo, rfl⟩ : ∃ wo : World, wo = w4 := ⟨_, rfl⟩
      go_loopw [55] (fun vi wr => ∃ k : Nat, vi = .int .i64 k ∧ k ≤ s.length ∧ New wo wr) (fun vi _ => s.length - (intOf vi).toNat)
      case atStart => exact ⟨0, rfl, Nat.zero_le _, New.refl _⟩
      case round =>
        obtain ⟨k, rfl, hk, hnew⟩ := hrel
        by_cases hlt : k < s.length
        · have hd : decide ((k : Int) < s.length) = true := decide_eq_true (by omega)
          obtain ⟨y, hy⟩ : ∃ y, s[k]? = some y := ⟨_, List.getElem?_eq_getElem hlt⟩
          have cy : wr.cell? ⟨g, k, none⟩ = some (.int .u32 y) := Fr.cell hnew (HO4.out.icell hy) id
          have hkI : (k : Int) < s.length := by omega
          have hkw : IntKind.i64.wrap ((k : Int) + 1) = (k : Int) + 1 := IntWalk.i64_in _ (by omega)
          have HP := Lib.hid (HPL.out k y hy)
          clear hy
          rcases Nat.lt_trichotomy k i with h1 | h1 | h1
          · have hPy : placeOf s' y = (k : Int) + 1 := by rw [HP.out, if_neg (by omega), if_neg (by omega)]
            have HPY := Lib.hid hPy
            have e1 : ((k : Int) == (i : Int)) = false := by simp; omega
            have e2 : decide ((i : Int) < (k : Int)) = false := decide_eq_false (by omega)
            have e3 : decide (i < k) = false := decide_eq_false (by omega)
            have e4 : (k == i) = false := by simp; omega
            clear hPy
            go_wp2_with fail
            refine (qpos (H4.out.new hnew) HA'.out hl'2 y).mono ?_
            rw [HPY.out]
            rintro e w6 ⟨rfl, hn6⟩
            have hnew6 := hnew.trans hn6
            go_wp2
            go_roundw
            case rel => exact ⟨k + 1, by go_num, by omega, hnew6⟩
            case measure => simp [intOf]; omega
          · have hPy : placeOf s' y = 0 := by rw [HP.out, if_pos h1]
            have HPY := Lib.hid hPy
            clear hPy
            subst h1
            have e2 : decide ((k : Int) < (k : Int)) = false := decide_eq_false (by omega)
            go_wp2_with fail
            refine (qpos (H4.out.new hnew) HA'.out hl'2 y).mono ?_
            rw [HPY.out]
            rintro e w6 ⟨rfl, hn6⟩
            have hnew6 := hnew.trans hn6
            go_wp2
            go_roundw
            case rel => exact ⟨k + 1, by go_num, by omega, hnew6⟩
            case measure => simp [intOf]; omega
          · have hPy : placeOf s' y = (k : Int) := by rw [HP.out, if_neg (by omega), if_pos (by omega)]
            have HPY := Lib.hid hPy
            have e1 : ((k : Int) == (i : Int)) = false := by simp; omega
            have e2 : decide ((i : Int) < (k : Int)) = true := decide_eq_true (by omega)
            have e3 : decide (i < k) = true := decide_eq_true (by omega)
            have e4 : (k == i) = false := by simp; omega
            clear hPy
            go_wp2_with fail
            refine (qpos (H4.out.new hnew) HA'.out hl'2 y).mono ?_
            rw [HPY.out]
            rintro e w6 ⟨rfl, hn6⟩
            have hnew6 := hnew.trans hn6
            go_wp2
            go_roundw
            case rel => exact ⟨k + 1, by go_num, by omega, hnew6⟩
            case measure => simp [intOf]; omega
        · have hd : decide ((k : Int) < s.length) = false := decide_eq_false (by omega)
          go_wp2_with fail
          refine (alive_any _).mono ?_
          rintro e w6 ⟨rfl, hn6⟩
          go_wp2_with fail
          refine (ilen_any ((H4.out.new hnew).new hn6).at_).mono ?_
          rintro e w7 ⟨rfl, rfl⟩
          go_wp2
          go_ret
          exact ⟨rfl, (hn4.trans hnew).trans hn6⟩

end Go.Proofs.Ytmhhmenhfocfjaa
