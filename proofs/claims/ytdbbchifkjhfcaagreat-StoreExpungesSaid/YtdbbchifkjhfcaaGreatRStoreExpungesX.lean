/- The walk of StoreExpunges: SExp. -/
import Derived.Test.YtdbbchifkjhfcaaGreatGZ16AR

section
/- StoreExpunges: the walk. -/
namespace Go.Proofs.YtdbbchifkjhfcaaGreat
open Go.RowKit Go.Maps

/-- The messages that the law appends: numbered from n, with the flags of f and the byte f. -/
def flMs (n : Int) : List Int → List Msg
  | [] => []
  | f :: r => ⟨n, andI f 31, [f]⟩ :: flMs (n + 1) r
theorem flMs_snoc (n : Int) (l : List Int) (f : Int) : flMs n (l ++ [f]) = flMs n l ++ [⟨n + l.length, andI f 31, [f]⟩] := by
  induction l generalizing n with
  | nil => simp [flMs]
  | cons x l ih =>
    rw [List.cons_append, flMs, ih, flMs, List.cons_append, show n + 1 + (l.length : Int) = n + ((x :: l).length : Int) by simp; omega]
theorem flMs_len (n : Int) (l : List Int) : (flMs n l).length = l.length := by
  induction l generalizing n with
  | nil => rfl
  | cons x l ih => rw [flMs, List.length_cons, ih, List.length_cons]

theorem withL_snoc (M : List Msg) (m : Msg) : withL (M ++ [m]) 4 = withL M 4 ++ if andI m.fl 4 = 4 then [m.uid] else [] := by
  unfold withL
  rw [List.filter_append, List.map_append]
  by_cases h : andI m.fl 4 = 4 <;> simp [h]
theorem leftM_snoc (M : List Msg) (m : Msg) : (leftM (M ++ [m])).map Msg.uid = (leftM M).map Msg.uid ++ if andI m.fl 4 = 4 then [] else [m.uid] := by
  unfold leftM
  rw [List.filter_append, List.map_append]
  by_cases h : andI m.fl 4 = 4 <;> simp [h]
theorem withL_left (M : List Msg) : withL (leftM M) 4 = [] := by
  unfold withL leftM
  rw [List.filter_filter]
  have : (M.filter fun m => decide (andI m.fl 4 = 4) && !decide (andI m.fl 4 = 4)) = [] := by
    rw [List.filter_eq_nil_iff]
    intro m _
    simp
  rw [this]
  rfl

theorem and31_4 {f : Int} (h0 : 0 ≤ f) (h1 : f ≤ 255) : (andI f 4 ≠ 0) ↔ andI (andI f 31) 4 = 4 := by
  obtain ⟨n, rfl⟩ := Int.eq_ofNat_of_zero_le h0
  have h : ∀ n : Fin 256, (andI ((n.val : Nat) : Int) 4 ≠ 0) ↔ andI (andI ((n.val : Nat) : Int) 31) 4 = 4 := by decide +kernel
  exact h ⟨n, by omega⟩

/-- The law's loop, under way. -/
structure XpR (w wr : World) (base s i : Nat) (fl : List Int) (S : Sx) (Q : Qs) (M : List Msg) (n t f : Int) (vg vy : Value) : Prop where
  st : STX w base wr S Q M n t f
  s_ : S.s = s
  cap : S.cap = 60
  ids : Q.ids = []
  m : M = flMs 1 (fl.take i)
  n_ : n = i + 1
  g : Own (intE .u32) 26 w.heap.size wr vg (withL M 4)
  y : Own (intE .u32) 26 w.heap.size wr vy ((leftM M).map Msg.uid)
  gf : ∀ k, vg.ownBlock = some k → ¬ S.foot Q k
  yf : ∀ k, vy.ownBlock = some k → ¬ S.foot Q k
  ap : ∀ k, vg.ownBlock = some k → vy.ownBlock ≠ some k

theorem XpR.more {w wr w' : World} {base s i : Nat} {fl : List Int} {S : Sx} {Q : Qs} {M : List Msg} {n t f : Int} {vg vy : Value} (h : XpR w wr base s i fl S Q M n t f vg vy) (hn : New wr w') : XpR w w' base s i fl S Q M n t f vg vy :=
  { h with st := h.st.more hn, g := h.g.new hn, y := h.y.new hn }

set_option maxRecDepth 100000 in
set_option maxHeartbeats 6400000 in
theorem exp_law (x : Value × List Int) (w : World) (hx : Rd (intE .u8) w x.1 x.2 ∧ (∀ y ∈ x.2, (Lit.int .u8 y).wf = true) ∧ x.2.length ≤ maxLen) :
    Calls Tryz.prog 4 #[x.1] w fun e w' => e = .returned (.bool true) ∧ New w w' := by
  obtain ⟨v, fl⟩ := x
  obtain ⟨hrd, hwf, hlm⟩ := hx
  dsimp only at hrd hwf hlm ⊢
  unfold maxLen at hlm
  obtain ⟨i0, hi0, hz0, hz1, hz2⟩ := info_parts u32_info
  obtain ⟨A, c, rfl, hlc, hcells⟩ := hrd.ints
  by_cases hlen : fl.length ≤ 60
  · have hd : decide (60 < fl.length) = false := decide_eq_false (by omega)
    have hd' : decide ((60 : Int) < fl.length) = false := decide_eq_false (by omega)
    have HC := Lib.hid hcells
    have HWF := Lib.hid hwf
    clear hcells hwf hrd
    go_enter Tryz.func4, Tryz.ntmps4
    go_wp2_with fail
    refine (snew_any 4 (by omega) (by omega) 60 (by omega) (by omega) 1 (by omega) (by omega) _).mono ?_
    rintro e w1 ⟨S, base, rfl, hcap, _, hS⟩
    rw [show max (1 : Int) 1 = 1 by decide] at hS
    have HR0 : Hid (XpR w w1 base S.s 0 fl S Qs.none [] 1 0 1 (.slice none 0 0) (.slice none 0 0)) := Lib.hid ⟨hS, rfl, hcap, rfl, by simp [flMs], rfl, Own.nil _ _ _ _, Own.nil _ _ _ _, (fun k h => by cases h), (fun k h => by cases h), (fun k h => by cases h)⟩
    clear hS hcap
    go_wp2
    go_loopw [4, 5, 20] (fun vg vy vi wr => ∃ (i : Nat) (Sj : Sx) (Q : Qs) (M : List Msg) (n t : Int) (ug uy : Value), vg = ug ∧ vy = uy ∧ vi = .int .i64 i ∧ i ≤ fl.length ∧ Hid (XpR w wr base S.s i fl Sj Q M n t 1 ug uy)) (fun _ _ vi _ => fl.length - (intOf vi).toNat)
    case atStart => exact ⟨0, S, Qs.none, [], 1, 0, _, _, rfl, rfl, rfl, by omega, HR0.out⟩
    case round =>
      obtain ⟨i, Sj, Q, M, n, t, ug, uy, rfl, rfl, rfl, hi, HR⟩ := hrel
      clear HR0
      obtain ⟨gA, gn, gc, rfl⟩ := own_shape HR.out.g
      obtain ⟨yA, yn, yc, rfl⟩ := own_shape HR.out.y
      have HPS : Hid (Value.pointer (some ⟨Sj.s, 0, none⟩) = .pointer (some ⟨S.s, 0, none⟩)) := Lib.hid (by rw [HR.out.s_])
      by_cases hlt : i < fl.length
      · have hd1 : decide ((i : Int) < fl.length) = true := decide_eq_true (by omega)
        have hw1 : IntKind.i64.wrap ((i : Int) + 1) = (i : Int) + 1 := IntWalk.i64_in _ (by omega)
        obtain ⟨f, hf⟩ : ∃ f, fl[i]? = some f := ⟨_, List.getElem?_eq_getElem hlt⟩
        have hfb := bounds_u8 (HWF.out f (List.mem_of_getElem? hf))
        obtain ⟨b, off, rfl, hcl⟩ := HC.out (by rintro rfl; simp at hlt)
        have hcc : wr.cell? ⟨b, off + i, none⟩ = some (.int .u8 f) := Fr.cell HR.out.st.new (hcl i f hf) id
        have hiI : (i : Int) < fl.length := by omega
        have HTK := Lib.hid (take_snoc hf)
        obtain ⟨f31, hf31⟩ : ∃ f31, andI f 31 = f31 := ⟨_, rfl⟩
        have hb31 : bits .and .u8 f 31 = f31 := (u8_andI hfb.1 hfb.2 (by omega) (by omega)).trans hf31
        have hf31b : 0 ≤ f31 ∧ f31 ≤ 31 := by
          rw [← hf31]; unfold andI
          have := @Nat.and_le_right f.toNat 31
          simp; omega
        obtain ⟨f4, hf4⟩ : ∃ f4, andI f 4 = f4 := ⟨_, rfl⟩
        have hb4 : bits .and .u8 f 4 = f4 := (u8_andI hfb.1 hfb.2 (by omega) (by omega)).trans hf4
        have hq4 := and31_4 hfb.1 hfb.2
        rw [hf31, hf4] at hq4
        have hM := HR.out.m
        have hMl : M.length = i := by rw [hM, flMs_len, List.length_take]; omega
        have hn_ := HR.out.n_
        have hbb : Blk (wr.alloc (.cells #[.int .u8 f] 5)) wr.heap.size 5 #[.int .u8 f] := Blk.new _ _ _
        have hna : New wr (wr.alloc (.cells #[.int .u8 f] 5)) := (New.refl wr).alloc _
        have hap := sappend_any (HR.out.st.more hna) (by rw [HR.out.cap]; omega) (by omega) (fun x hx => by rw [HR.out.ids] at hx; cases hx) f31 hf31b (some ⟨wr.heap.size, 0, none⟩) 1 1 [f] (rd_block (intE .u8) hbb [f] rfl) (by simp) (fun b' hb' hs => by
          cases hb'
          have := HR.out.st.foot_lt hs
          simp at this)
        rw [HPS.out] at hap
        have HAP := Lib.hid hap
        have HNA := Lib.hid hna
        have HQ4 := Lib.hid hq4
        have HM1 : Hid (M ++ [(⟨n, f31, [f]⟩ : Msg)] = flMs 1 (fl.take (i + 1))) := Lib.hid (by
          rw [HTK.out, flMs_snoc, ← hM, hf31, List.length_take, hn_, show min i fl.length = i by omega, show (i : Int) + 1 = 1 + i by omega])
        have HN := Lib.hid hn_
        have hn32 : 1 ≤ n ∧ n ≤ 61 := by omega
        clear hap hna hq4 hM hMl hbb hf hf31 hf4 hcl hn_
        go_wp2_with fail
        refine HAP.out.mono ?_
        rintro e w2 ⟨rfl, u', v', hS2, hF2, hu2, hv2⟩
        have hp2 := (Stp.new HNA.out).trans (append_stp (p := fun _ => true) (ev := ⟨1, n, 0⟩) hF2 hu2 hv2)
        have hg2 := HR.out.g.fr hp2.fr HR.out.gf
        have hy2 := HR.out.y.fr hp2.fr HR.out.yf
        have hgl := fun k hk => (HR.out.g.block (b := k) hk).2
        have hyl := fun k hk => (HR.out.y.block (b := k) hk).2
        have hgf2 := fun k hk => hp2.far (hgl k hk) (HR.out.gf k hk)
        have hyf2 := fun k hk => hp2.far (hyl k hk) (HR.out.yf k hk)
        have hs2 := hp2.fr.size
        obtain ⟨S2, Q2, hS2', h2s, h2c, h2i, hgf, hyf⟩ : ∃ S2 Q2, STX w base w2 S2 Q2 (M ++ [⟨n, f31, [f]⟩]) (n + 1) (t + 1) 1 ∧ S2.s = S.s ∧ S2.cap = 60 ∧ Q2.ids = [] ∧ (∀ k, (Value.slice gA gn gc).ownBlock = some k → ¬ S2.foot Q2 k) ∧ (∀ k, (Value.slice yA yn yc).ownBlock = some k → ¬ S2.foot Q2 k) :=
          ⟨{ Sj with u := u' }, Q.told (fun _ => true) ⟨1, n, 0⟩ v', hS2, HR.out.s_, HR.out.cap, HR.out.ids, hgf2, hyf2⟩
        have HS2 := Lib.hid hS2'
        have HG2 := Lib.hid hg2
        have HY2 := Lib.hid hy2
        have H2S := Lib.hid h2s
        have H2C := Lib.hid h2c
        have H2I := Lib.hid h2i
        have HGF := Lib.hid hgf
        have HYF := Lib.hid hyf
        have hwn2 := hS2'.new.size
        clear hS2 hF2 hu2 hv2 hp2 hg2 hy2 hgl hyl hgf2 hyf2 hS2' h2s h2c h2i hgf hyf
        have hgn : gn = (withL M 4).length := HR.out.g.form.elim fun A h => h.elim fun c h => by injection h.1
        have hyn : yn = ((leftM M).map Msg.uid).length := HR.out.y.form.elim fun A h => h.elim fun c h => by injection h.1
        have hML : M.length ≤ 60 := by have := HR.out.st.len; rw [HR.out.cap] at this; omega
        have hgn60 : (withL M 4).length ≤ 60 := Nat.le_trans (by unfold withL; rw [List.length_map]; exact List.length_filter_le _ _) hML
        have hyn60 : ((leftM M).map Msg.uid).length ≤ 60 := Nat.le_trans (by unfold leftM; rw [List.length_map]; exact List.length_filter_le _ _) hML
        clear hgn hyn hML
        by_cases hz : f4 = 0
        · have hzb : (f4 != 0) = false := by simp [hz]
          have h31 : ¬ andI f31 4 = 4 := fun h => HQ4.out.2 h hz
          have HWL : Hid (withL (M ++ [⟨n, f31, [f]⟩]) 4 = withL M 4) := Lib.hid (by rw [withL_snoc, if_neg h31, List.append_nil])
          have HLL : Hid ((leftM (M ++ [⟨n, f31, [f]⟩])).map Msg.uid = (leftM M).map Msg.uid ++ [n]) := Lib.hid (by rw [leftM_snoc, if_neg h31])
          have hO := HY2.out.alloc (.cells #[.int .u32 n] 26)
          clear hz h31
          go_wp2_with (first
            | (at_builtin; refine wpList_push (E := intE .u32) rfl _ _ _ rfl Tryz.underlying27 hi0 hz0 hz1 hz2 rfl hO rfl n w2.heap.size (Blk.new _ _ _) 1 rfl (by unfold maxLen; omega) (by omega) (by simp; omega) ?_; intro v3 w3 hv3 hf3 hl3; obtain ⟨A3, N3, C3, hv3e⟩ := own_shape hv3; subst hv3e)
            | fail)
          have hyb := fun k hk => (HY2.out.block (b := k) hk)
          have hst3 := (HS2.out.more ((New.refl w2).alloc (.cells #[.int .u32 n] 26))).keep hf3 (fun k hk hs => HYF.out k hs hk) (fun v l hv b hb hs => by
            obtain ⟨cs, h9⟩ := hv.heap hb
            obtain ⟨cs', h10⟩ := hO.heap hs
            exact h9.ne_ h10 (by decide) rfl) (fun k hk => (hyb k hk).1)
          have hg3 := (HG2.out.alloc (.cells #[.int .u32 n] 26)).fr hf3 (fun k hk hs => HR.out.ap k hk hs)
          have hap3 : ∀ k, (Value.slice gA gn gc).ownBlock = some k → (Value.slice A3 N3 C3).ownBlock ≠ some k := fun k hk hs => by
            rcases hl3 with h3 | h3
            · exact HR.out.ap k hk (h3 ▸ hs)
            · rw [h3] at hs
              have := (HG2.out.block hk).2
              simp at hs
              omega
          have hyf3 : ∀ k, (Value.slice A3 N3 C3).ownBlock = some k → ¬ S2.foot Q2 k := fun k hk hs => by
            rcases hl3 with h3 | h3
            · exact HYF.out k (h3 ▸ hk) hs
            · rw [h3] at hk
              have := HS2.out.foot_lt hs
              simp at hk
              omega
          have HR3 : Hid (XpR w w3 base S.s (i + 1) fl S2 Q2 (M ++ [⟨n, f31, [f]⟩]) (n + 1) (t + 1) 1 (.slice gA gn gc) (.slice A3 N3 C3)) := Lib.hid ⟨hst3, H2S.out, H2C.out, H2I.out, HM1.out, by rw [HN.out]; simp, by rw [HWL.out]; exact hg3, by rw [HLL.out]; exact hv3, HGF.out, hyf3, hap3⟩
          clear hst3 hg3 hap3 hyf3 hv3 hf3 hl3 hO hyb
          go_wp2
          go_roundw
          case rel => exact ⟨i + 1, S2, Q2, _, _, _, _, _, rfl, rfl, by go_num, by omega, HR3.out⟩
          case measure => simp [intOf]; omega
        · have hzb : (f4 != 0) = true := by simp [hz]
          have h31 : andI f31 4 = 4 := HQ4.out.1 hz
          have HWL : Hid (withL (M ++ [⟨n, f31, [f]⟩]) 4 = withL M 4 ++ [n]) := Lib.hid (by rw [withL_snoc, if_pos h31])
          have HLL : Hid ((leftM (M ++ [⟨n, f31, [f]⟩])).map Msg.uid = (leftM M).map Msg.uid) := Lib.hid (by rw [leftM_snoc, if_pos h31, List.append_nil])
          have hO := HG2.out.alloc (.cells #[.int .u32 n] 26)
          clear hz h31
          go_wp2_with (first
            | (at_builtin; refine wpList_push (E := intE .u32) rfl _ _ _ rfl Tryz.underlying27 hi0 hz0 hz1 hz2 rfl hO rfl n w2.heap.size (Blk.new _ _ _) 1 rfl (by unfold maxLen; omega) (by omega) (by simp; omega) ?_; intro v3 w3 hv3 hf3 hl3; obtain ⟨A3, N3, C3, hv3e⟩ := own_shape hv3; subst hv3e)
            | fail)
          have hyb := fun k hk => (HG2.out.block (b := k) hk)
          have hst3 := (HS2.out.more ((New.refl w2).alloc (.cells #[.int .u32 n] 26))).keep hf3 (fun k hk hs => HGF.out k hs hk) (fun v l hv b hb hs => by
            obtain ⟨cs, h9⟩ := hv.heap hb
            obtain ⟨cs', h10⟩ := hO.heap hs
            exact h9.ne_ h10 (by decide) rfl) (fun k hk => (hyb k hk).1)
          have hy3 := (HY2.out.alloc (.cells #[.int .u32 n] 26)).fr hf3 (fun k hk hs => HR.out.ap k hs hk)
          have hap3 : ∀ k, (Value.slice A3 N3 C3).ownBlock = some k → (Value.slice yA yn yc).ownBlock ≠ some k := fun k hs hk => by
            rcases hl3 with h3 | h3
            · exact HR.out.ap k (h3 ▸ hs) hk
            · rw [h3] at hs
              have := (HY2.out.block hk).2
              simp at hs
              omega
          have hgf3 : ∀ k, (Value.slice A3 N3 C3).ownBlock = some k → ¬ S2.foot Q2 k := fun k hk hs => by
            rcases hl3 with h3 | h3
            · exact HGF.out k (h3 ▸ hk) hs
            · rw [h3] at hk
              have := HS2.out.foot_lt hs
              simp at hk
              omega
          have HR3 : Hid (XpR w w3 base S.s (i + 1) fl S2 Q2 (M ++ [⟨n, f31, [f]⟩]) (n + 1) (t + 1) 1 (.slice A3 N3 C3) (.slice yA yn yc)) := Lib.hid ⟨hst3, H2S.out, H2C.out, H2I.out, HM1.out, by rw [HN.out]; simp, by rw [HWL.out]; exact hv3, by rw [HLL.out]; exact hy3, hgf3, HYF.out, hap3⟩
          clear hst3 hy3 hap3 hgf3 hv3 hf3 hl3 hO hyb
          go_wp2
          go_roundw
          case rel => exact ⟨i + 1, S2, Q2, _, _, _, _, _, rfl, rfl, by go_num, by omega, HR3.out⟩
          case measure => simp [intOf]; omega
      · have hd1 : decide ((i : Int) < fl.length) = false := decide_eq_false (by omega)
        have ht : fl.take i = fl := List.take_of_length_le (by omega)
        have hMok := HR.out.st.ok
        have hasc := HR.out.st.asc
        have hML : M.length ≤ 60 := by have := HR.out.st.len; rw [HR.out.cap] at this; omega
        have hex := sexpunge_any HR.out.st (fun x hx => by rw [HR.out.ids] at hx; cases hx)
        rw [HPS.out] at hex
        have hwl : (withL M 4).length ≤ 60 := Nat.le_trans (by unfold withL; rw [List.length_map]; exact List.length_filter_le _ _) hML
        have hll : ((leftM M).map Msg.uid).length ≤ 60 := Nat.le_trans (by rw [List.length_map]; unfold leftM; exact List.length_filter_le _ _) hML
        have HAS : Hid (AscOf (withL M 4) (withL M 4)) := Lib.hid ⟨withL_asc 4 hasc, fun x => ⟨fun h => ⟨h, fun e => by
          obtain ⟨m, hm, _, h2⟩ := withL_mem.1 h
          have := (hMok m hm).1.1
          omega⟩, fun h => h.1⟩⟩
        have hgn : gn = (withL M 4).length := HR.out.g.form.elim fun A h => h.elim fun c h => by injection h.1
        have hyn : yn = ((leftM M).map Msg.uid).length := HR.out.y.form.elim fun A h => h.elim fun c h => by injection h.1
        obtain ⟨wl, hwle⟩ : ∃ wl, withL M 4 = wl := ⟨_, rfl⟩
        have hg := HR.out.g
        have hy := HR.out.y
        obtain ⟨yl, hyle⟩ : ∃ yl, (leftM M).map Msg.uid = yl := ⟨_, rfl⟩
        have HLL := Lib.hid hyle
        rw [hwle] at hex hwl HAS hg hgn
        rw [hyle] at hll hy hyn
        subst hgn hyn
        have HEX := Lib.hid hex
        have HG := Lib.hid hg
        have HY := Lib.hid hy
        clear hex hMok hasc hML hg hy hwle hyle ht
        go_wp2_with fail
        refine HEX.out.mono ?_
        rintro e w2 ⟨oA, oc, S2, Q2, rfl, ho2, hS2, hp2, hids2, _, hfo⟩
        have HG2 := Lib.hid (HG.out.fr hp2.fr HR.out.gf)
        have HY2 := Lib.hid (HY.out.fr hp2.fr HR.out.yf)
        have HPS2 : Hid (Value.pointer (some ⟨S2.s, 0, none⟩) = .pointer (some ⟨S.s, 0, none⟩)) := Lib.hid (by rw [hp2.s, HR.out.s_])
        have HID2 : Hid (Q2.ids = []) := Lib.hid (hids2.trans HR.out.ids)
        have HO2 := Lib.hid ho2
        have HS2 := Lib.hid hS2
        clear ho2 hS2 hp2 hids2 hfo
        go_wp2_with fail
        refine (malive_any _).mono ?_
        rintro e w3 ⟨rfl, hn3⟩
        have HRS := Lib.hid (rsorted_any (HG2.out.new hn3).rd (by omega))
        go_wp2_with fail
        refine HRS.out.mono ?_
        rintro e w4 ⟨o4, s4, rfl, ho4, has4, _, hn4⟩
        obtain rfl := AscOf.ext has4 HAS.out
        obtain ⟨pA, pc, rfl, _⟩ := ho4.form
        have HE4 := Lib.hid (uequal_any _ _ s4 s4 _ ((HO2.out.new hn3).new hn4).rd ho4.rd (by omega) (by omega))
        have hn34 := hn3.trans hn4
        clear ho4 has4 HRS
        go_wp2_with fail
        refine HE4.out.mono ?_
        first | rw [decide_eq_true rfl] | rw [decide_true]
        rintro e w5 ⟨rfl, hn5⟩
        have hS5 := HS2.out.more (hn34.trans hn5)
        have hui := suids_any hS5
        rw [HPS2.out, HLL.out] at hui
        have HUI := Lib.hid hui
        have HS5 := Lib.hid hS5
        have HY5 := Lib.hid (HY2.out.new (hn34.trans hn5))
        clear hui hS5 hn3 hn4 hn34 hn5 HE4
        go_wp2_with fail
        refine HUI.out.mono ?_
        rintro e w6 ⟨qA, qc, rfl, ho6, hn6⟩
        have hlm2 : (leftM M).length = yl.length := by rw [← HLL.out, List.length_map]
        rw [hlm2] at ho6
        have HE6 := Lib.hid (uequal_any _ _ yl yl _ ho6.rd (HY5.out.new hn6).rd (by omega) (by omega))
        rw [hlm2]
        have HS6 := Lib.hid (HS5.out.more hn6)
        clear hlm2 ho6 hn6
        go_wp2_with fail
        refine HE6.out.mono ?_
        first | rw [decide_eq_true rfl] | rw [decide_true]
        rintro e w7 ⟨rfl, hn7⟩
        have hex7 := sexpunge_any (HS6.out.more hn7) (fun x hx => by rw [HID2.out] at hx; cases hx)
        rw [HPS2.out, withL_left] at hex7
        have HEX7 := Lib.hid hex7
        clear hex7 hn7
        go_wp2_with fail
        refine HEX7.out.mono ?_
        rintro e w8 ⟨rA, rc, S8, Q8, rfl, _, hS8, _, _, _, _⟩
        have HN8 := Lib.hid hS8.new
        clear hS8
        go_wp2
        go_ret
        exact ⟨rfl, HN8.out⟩
  · have hd : decide (60 < fl.length) = true := decide_eq_true (by omega)
    have hd' : decide ((60 : Int) < fl.length) = true := decide_eq_true (by omega)
    clear hcells hwf hrd
    go_enter Tryz.func4, Tryz.ntmps4
    go_wp2_with fail
    refine (malive_any _).mono ?_
    rintro e w2 ⟨rfl, hn2⟩
    go_wp2
    go_ret
    exact ⟨rfl, hn2⟩

end Go.Proofs.YtdbbchifkjhfcaaGreat
end

