/- LockTwoPhase: the walk. -/
import Derived.Test.YtflalhciohdahaaTwoOpen
import Derived.Test.YtflalhciohdahaaSortI
import Derived.Test.YtflalhciohdahaaCompactI
import Derived.Lib.MinMax
namespace Go.Proofs.Ytflalhciohdahaa
open Go.RowKit

theorem slice_info : (Try.prog.info? 30).map (fun i => (i.zero, i.size, i.bytes)) = some (some (.slice none 0 0), 1, 24) := by kernel_rfl

/-- The locks of one list, before they are sorted. -/
def modsP (l : List Int) : List Int := l.map fun y => y % 12

theorem modsP_snoc {l : List Int} {k : Nat} {y : Int} (h : l[k]? = some y) : modsP (l.take (k + 1)) = modsP (l.take k) ++ [y % 12] := by
  unfold modsP
  rw [take_snocI h, List.map_append]
  rfl

theorem TwoInv.start {L : List (List Int)} (h : ∀ l ∈ L, l.Pairwise (· < ·) ∧ ∀ x ∈ l, 0 ≤ x ∧ x < 12) : TwoInv (List.replicate 12 (-1)) L :=
  ⟨List.length_replicate, fun x hx => by rw [(List.mem_replicate.1 hx).2]; exact Int.le_refl _, fun k => by rw [rep_owner]; omega, h, fun i l _ k hk => by rw [rep_owner] at hk; omega⟩

/-- A pass over the owners, i of whom have had their turns: less is left than before, or nothing has turned. -/
def Passing (O0 : List Int) (L0 : List (List Int)) (O : List Int) (L : List (List Int)) (i : Nat) : Prop :=
  potP O L ≤ potP O0 L0 ∧ (potP O L = potP O0 L0 → O = O0 ∧ L = L0 ∧ ∀ j < i, stepP O0 L0 j = (O0, L0))
theorem Passing.start (O : List Int) (L : List (List Int)) : Passing O L O L 0 := ⟨Nat.le_refl _, fun _ => ⟨rfl, rfl, fun j hj => by omega⟩⟩
theorem Passing.le {O0 O : List Int} {L0 L : List (List Int)} {i : Nat} (h : Passing O0 L0 O L i) : potP O L ≤ potP O0 L0 := h.1
theorem Passing.step {O0 O : List Int} {L0 L : List (List Int)} {i : Nat} (h : Passing O0 L0 O L i) (hI : TwoInv O L) (hi : i < L.length) : Passing O0 L0 (stepP O L i).1 (stepP O L i).2 (i + 1) := by
  rcases (hI.step_pot hi).2.2 with h1 | h1
  · rw [h1]
    refine ⟨h.1, fun he => ?_⟩
    obtain ⟨rfl, rfl, h2⟩ := h.2 he
    refine ⟨rfl, rfl, fun j hj => ?_⟩
    by_cases hji : j = i
    · rw [hji]; exact h1
    · exact h2 j (by omega)
  · have := h.1
    exact ⟨by omega, fun he => by omega⟩
theorem Passing.done {O0 O : List Int} {L0 L : List (List Int)} {n : Nat} (h : Passing O0 L0 O L n) (hI : TwoInv O0 L0) (hn : L0.length = n) : potP O L < potP O0 L0 ∨ potP O0 L0 = 0 := by
  rcases Nat.lt_or_ge (potP O L) (potP O0 L0) with h1 | h1
  · exact .inl h1
  · exact .inr (hI.stuck fun i hi => (h.2 (by have := h.1; omega)).2.2 i (by omega))

/-- The law's state while the owners take their turns. -/
structure Turning (base T n : Nat) (w : World) (b bm bl bt : Nat) (lv : Value) (O : List Int) (N : Int) (xs : List Sli) : Prop where
  tab : Tab w b bm O N
  bt : Blk w bt 23 #[.pointer (some ⟨b, 0, none⟩)]
  lists : Lists base w bl lv xs
  inv : TwoInv O (xs.map Sli.l)
  len : xs.length = n
  tot : N + wantP (xs.map Sli.l) = T

theorem Turning.step {w0 w : World} {T n b bm bl bt : Nat} {lv : Value} {O : List Int} {N : Int} {xs : List Sli} (h : Turning w0.heap.size T n w b bm bl bt lv O N xs) (hn : n ≤ 10) (hT : T ≤ 200) (hb : w0.heap.size ≤ b) (hm : w0.heap.size ≤ bm)
    (i : Nat) (hi : i < n) (hnew : New w0 w) :
    Calls Try.prog 29 #[.int .i64 i, .pointer (some ⟨bl, 0, none⟩), .pointer (some ⟨bt, 0, none⟩)] w fun e w' => e = .returned (.bool true) ∧ ∃ N' xs', Turning w0.heap.size T n w' b bm bl bt lv (stepP O (xs.map Sli.l) i).1 N' xs' ∧
      xs'.map Sli.l = (stepP O (xs.map Sli.l) i).2 ∧ New w0 w' := by
  have hN := h.tot
  have hxl := h.len
  refine (step_any h.tab h.bt h.lists h.inv (by omega) (by omega) i (by omega)).mono ?_
  rintro e w' ⟨rfl, xs', N', ht, hL, hmap, htot, hf⟩
  obtain ⟨l, hml, _⟩ := h.tab.map
  have hs := h.inv.step_pot (i := i) (by rw [List.length_map]; omega)
  refine ⟨rfl, N', xs', ⟨ht, Fr.blk hf h.bt (fun hk => ?_), hL, by rw [hmap]; exact hs.1, ?_, by omega⟩, hmap, New.two hnew hf fun k hk => ?_⟩
  · rcases hk with rfl | rfl | hk
    · exact h.tab.blk.ne_ h.bt (by decide) rfl
    · exact h.bt.not_map hml rfl
    · exact h.lists.own.blk_ne h.bt (by decide) hk
  · have h1 : (xs'.map Sli.l).length = (xs.map Sli.l).length := by rw [hmap]; exact hs.2.1
    rw [List.length_map, List.length_map] at h1
    omega
  · rcases hk with rfl | rfl | hk
    · exact hb
    · exact hm
    · exact (h.lists.own.block hk).1

set_option maxRecDepth 100000 in
set_option maxHeartbeats 6400000 in
theorem two_any (x : Value × List Sli) (y : Value × List Int) (w : World) (h : Rd slE w x.1 x.2 ∧ (∀ y ∈ x.2, y.bytes w) ∧ x.2.length ≤ maxLen)
    (h2 : Rd (intE .u8) w y.1 y.2 ∧ (∀ z ∈ y.2, (Lit.int .u8 z).wf = true) ∧ y.2.length ≤ maxLen) :
    Calls Try.prog 8 #[x.1, y.1] w fun e w' => e = .returned (.bool true) ∧ New w w' := by
  obtain ⟨v, ws⟩ := x
  obtain ⟨hv, hw, hwm⟩ := h
  obtain ⟨u, ts⟩ := y
  obtain ⟨hu, htu, htm⟩ := h2
  dsimp only at hv hw hwm hu htu htm ⊢
  unfold maxLen at hwm htm
  have HW := Lib.hid hw
  have HTU := Lib.hid htu
  clear hw htu
  obtain ⟨A, c, rfl, hc, hcells⟩ := hv
  obtain ⟨B, d, rfl, hd, hB⟩ := hu.ints
  have HC := Lib.hid hcells
  have HB := Lib.hid hB
  clear hcells hB hu
  obtain ⟨i0, hi, hz0, hz1, hz2⟩ := info_parts int_info
  obtain ⟨j0, hj, hy0, hy1, hy2⟩ := info_parts slice_info
  rcases Nat.lt_or_ge 10 ws.length with hl | hl
  · go_enter Try.func8, Try.ntmps8
    go_wp2_with fail
    refine (alive_any _).mono ?_
    rintro e w2 ⟨rfl, hn2⟩
    go_wp2
    go_ret
    exact ⟨rfl, hn2⟩
  rcases Nat.lt_or_ge 100 ts.length with hl2 | hl2
  · have hd1 : decide (10 < (ws.length : Int)) = false := decide_eq_false (by omega)
    go_enter Try.func8, Try.ntmps8
    go_wp2_with fail
    refine (alive_any _).mono ?_
    rintro e w2 ⟨rfl, hn2⟩
    go_wp2
    go_ret
    exact ⟨rfl, hn2⟩
  have hd1 : decide (10 < (ws.length : Int)) = false := decide_eq_false (by omega)
  have hd2 : decide (100 < (ts.length : Int)) = false := decide_eq_false (by omega)
  clear hwm htm
  go_enter Try.func8, Try.ntmps8
  go_wp2_with fail
  refine (lnew_any 12 (by omega) (by omega) _).mono ?_
  rintro e w1 ⟨b, bm, rfl, ht1, hb, hm, hn1⟩
  have hs1 := hn1.size
  have hbt1 : Blk (w1.alloc (.cells #[.pointer (some ⟨b, 0, none⟩)] 23)) w1.heap.size 23 #[.pointer (some ⟨b, 0, none⟩)] := Blk.new _ _ _
  have hbt2 := hbt1.alloc (.cells #[.slice none 0 0] 55)
  have hbl2 : Blk ((w1.alloc (.cells #[.pointer (some ⟨b, 0, none⟩)] 23)).alloc (.cells #[.slice none 0 0] 55)) (w1.heap.size + 1) 55 #[.slice none 0 0] := Blk.new1 _ _ _ _
  have hn2 := (hn1.alloc (.cells #[.pointer (some ⟨b, 0, none⟩)] 23)).alloc (.cells #[.slice none 0 0] 55)
  have ht2 := ht1.new (((New.refl w1).alloc (.cells #[.pointer (some ⟨b, 0, none⟩)] 23)).alloc (.cells #[.slice none 0 0] 55))
  have hL2 : Lists w.heap.size ((w1.alloc (.cells #[.pointer (some ⟨b, 0, none⟩)] 23)).alloc (.cells #[.slice none 0 0] 55)) (w1.heap.size + 1) (.slice none 0 0) [] := ⟨hbl2, Own.nil _ _ _ _, by simp⟩
  have e0 : (w1.alloc (.cells #[.pointer (some ⟨b, 0, none⟩)] 23)).cell? ⟨w1.heap.size, 0, none⟩ = some (.pointer (some ⟨b, 0, none⟩)) := hbt1.cell 0
  clear ht1 hbt1 hbl2 hn1
  go_wp2
  have hbl0 : w.heap.size ≤ w1.heap.size + 1 := by omega
  generalize hbtn : w1.heap.size = bt at *
  generalize hbln : bt + 1 = bl at *
  have hbtl : bt < bl := by omega
  go_loopw [7, 31] (fun v7 vi wr => ∃ (k : Nat) (xs : List Sli) (lv : Value), k ≤ ws.length ∧ v7 = .int .i64 (wantP (xs.map Sli.l) : Nat) ∧ vi = .int .i64 k ∧ xs.length = k ∧ wantP (xs.map Sli.l) ≤ 20 * k ∧ Lists w.heap.size wr bl lv xs ∧
    Hid (∀ l ∈ xs.map Sli.l, l.Pairwise (· < ·) ∧ ∀ x ∈ l, 0 ≤ x ∧ x < 12) ∧ Tab wr b bm (List.replicate 12 (-1)) 0 ∧ Blk wr bt 23 #[.pointer (some ⟨b, 0, none⟩)] ∧ New w wr) (fun _ vi _ => ws.length - (intOf vi).toNat)
  case atStart => exact ⟨0, [], _, Nat.zero_le _, rfl, rfl, rfl, Nat.le_refl _, hL2, (fun l hl => by simp at hl), ht2, hbt2, hn2⟩
  case round =>
    obtain ⟨k, xs, lv, hk, rfl, rfl, hxk, hwk, hL, HASC, ht, hbt, hnew⟩ := hrel
    clear hL2 ht2 hbt2 hn2
    by_cases hkl : k < ws.length
    · obtain ⟨x, hx⟩ : ∃ x, ws[k]? = some x := ⟨_, List.getElem?_eq_getElem hkl⟩
      obtain ⟨bb, off, rfl, hcell⟩ := HC.out (by rintro rfl; simp at hkl)
      have hxb := HW.out x (List.mem_of_getElem? hx)
      have c0 : wr.cell? ⟨bb, off + k, none⟩ = some x.v := by
        have := hcell k x hx 0 _ rfl
        have e1 : off + (k * slE.sz + 0) = off + k := by show off + (k * 1 + 0) = off + k; omega
        rw [e1] at this
        exact Fr.cell hnew this id
      obtain ⟨xA, xc, xl⟩ := x
      dsimp only [Sli.v] at c0
      obtain ⟨hx1, hx2, hx3⟩ := hxb
      dsimp only at hx1 hx2 hx3
      unfold maxLen at hx3
      have HX2 := Lib.hid hx2
      obtain ⟨xA', xc', he, hxc, hX⟩ := hx1.ints
      injection he with e1 e2 e3
      subst e1 e3
      have HX := Lib.hid hX
      clear hcell hx hx1 hx2 e2 hX
      obtain ⟨mm, hmm, hm1, hm2⟩ : ∃ mm : Nat, min (xl.length : Int) 20 = mm ∧ mm ≤ xl.length ∧ mm ≤ 20 := ⟨min xl.length 20, by omega, by omega, by omega⟩
      obtain ⟨lA, lN, lC, rfl⟩ := own_shape hL.own
      have hsz0 := hnew.size
      have hne1 := hL.own.blk_ne hL.blk (by decide)
      have HNE1 := Lib.hid hne1
      obtain ⟨wo, rfl⟩ : ∃ wo : World, wo = wr := ⟨_, rfl⟩
      have hxc2 : xl.length ≤ xc := hxc
      have hmc : mm ≤ xc := by omega
      clear hne1
      go_wp2
      go_loopw [10, 41] (fun vl vi wr => ∃ (j : Nat), j ≤ mm ∧ vi = .int .i64 j ∧ Own (intE .i64) 3 wo.heap.size wr vl (modsP (xl.take j)) ∧ New wo wr) (fun _ vi _ => mm - (intOf vi).toNat)
      case atStart => exact ⟨0, Nat.zero_le _, rfl, Own.nil _ _ _ _, New.refl _⟩
      case round =>
        obtain ⟨j, hj', rfl, hvl, hnj⟩ := hrel
        have hml : (modsP (xl.take j)).length ≤ 20 := by unfold modsP; rw [List.length_map, List.length_take]; omega
        have hszj := hnj.size
        by_cases hjm : j < mm
        · obtain ⟨y, hy⟩ : ∃ y, xl[j]? = some y := ⟨_, List.getElem?_eq_getElem (by omega)⟩
          have hyb := bounds_u8 (HX2.out y (List.mem_of_getElem? hy))
          obtain ⟨xb, xo, rfl, hxc'⟩ := HX.out (by rintro rfl; simp at hy)
          have e1 : wr.cell? ⟨xb, xo + j, none⟩ = some (.int .u8 y) := Fr.cell (hnew.trans hnj) (hxc' j y hy) id
          have hsn := modsP_snoc hy
          have HSN := Lib.hid hsn
          clear hy hsn hxc' c0
          have hy1 := hyb.1
          have hy2 := hyb.2
          go_wp2_with (at_builtin; refine wpList_push (E := intE .i64) rfl _ _ _ rfl Try.underlying30 hi hz0 hz1 hz2 rfl (hvl.alloc _) rfl (y % 12) wr.heap.size (Blk.new _ _ _) 1 rfl (by unfold maxLen; omega) (by omega) (by simp; omega) ?_; intro v2 w2 hv2 hf2 hl2')
          have hn2 := New.append (hnj.alloc (.cells #[.int .i64 (y % 12)] 3)) (hvl.alloc (.cells #[.int .i64 (y % 12)] 3)) hf2
          rw [← HSN.out] at hv2
          go_roundw
          case rel => exact ⟨j + 1, by omega, by go_num, hv2, hn2⟩
          case measure => simp [intOf]; omega
        · obtain rfl : j = mm := by omega
          obtain ⟨H, hH⟩ : ∃ H, H = modsP (xl.take j) := ⟨_, rfl⟩
          rw [← hH] at hvl hml
          have HH := Lib.hid hH
          clear hH
          obtain ⟨vA, vN, vC, rfl⟩ := own_shape hvl
          go_wp2_with fail
          refine (isort_any hvl (by omega)).mono ?_
          rintro e w3 ⟨rfl, hv3, hf3⟩
          have hn3 := New.append hnj hvl hf3
          go_wp2_with fail
          refine (icompact_any _ _ _ w3 hv3 (by rw [List.length_mergeSort]; omega)).mono ?_
          rintro e w4 ⟨o, rfl, ho, hf4, _⟩
          have hn4 := New.append hn3 hv3 hf4
          obtain ⟨K, hK⟩ : ∃ K, K = compactP (H.mergeSort fun x y => decide (x ≤ y)) := ⟨_, rfl⟩
          rw [← hK] at ho
          have hKlen : K.length ≤ 20 := by
            have := compactP_length (H.mergeSort fun x y => decide (x ≤ y))
            rw [List.length_mergeSort] at this
            rw [hK]; omega
          have hKasc : K.Pairwise (· < ·) ∧ ∀ x ∈ K, 0 ≤ x ∧ x < 12 := by
            rw [hK]
            refine ⟨compactP_sorted (isort_sorted H), fun x hx => ?_⟩
            rw [mem_compactP, List.mem_mergeSort, HH.out] at hx
            obtain ⟨y, _, rfl⟩ := List.mem_map.1 hx
            omega
          have HKA := Lib.hid hKasc
          obtain ⟨oA, oC, rfl, hoC⟩ := ho.form
          have hL4 := hL.new hn4
          have hbt4 := hn4.blk hbt
          have ht4 := ht.new hn4
          have hnew4 := hnew.trans hn4
          have hyok : Sli.ok w4 ⟨oA, oC, K⟩ := ⟨ho.rd, fun g hg0 => by
            have hg : (Value.slice oA K.length oC).ownBlock = some g := hg0
            rcases ho.2 with ⟨h1, _⟩ | ⟨g', cap, cur, h1, _, hgb, _⟩
            · rw [h1] at hg; cases hg
            · rw [h1] at hg
              cases hg
              exact ⟨cur, hgb⟩, hKlen⟩
          have hwsn : wantP ((xs ++ [(⟨oA, oC, K⟩ : Sli)]).map Sli.l) = wantP (xs.map Sli.l) + K.length := by rw [List.map_append]; exact wantP_snoc _
          have HYOK := Lib.hid hyok
          have HWSN := Lib.hid hwsn
          have hs4 := hn4.size
          have hnw4 := hnew4.size
          have k0 : w4.cell? ⟨bl, 0, none⟩ = some (.slice lA lN lC) := hL4.blk.cell 0
          have hblt := hL4.blk.lt
          have HL4 := Lib.hid hL4
          clear hK hKasc hyok hwsn hv3 hvl hf3 hf4 hn3 hnj ho c0 hL4
          go_wp2_with (at_builtin; refine wpList_push (E := slE) rfl _ _ _ rfl Try.underlying55 hj hy0 hy1 hy2 rfl (HL4.out.own.alloc _) rfl ⟨oA, oC, K⟩ w4.heap.size (Blk.new _ _ _) 1 rfl (by unfold maxLen; omega) (by omega) (by simp; omega) ?_; intro v2 w5 hv2 hf2 hl2'; have hbl5 := Fr.blk hf2 (HL4.out.blk.alloc (.cells #[.slice oA K.length oC] 30)) HNE1.out; have e5 : w5.cell? ⟨bl, 0, none⟩ = some (.slice lA lN lC) := hbl5.cell 0; have f5 : w5.frozen? ⟨bl, 0, none⟩ = false := hbl5.frozen 0; obtain ⟨nA, nN, nC, hve⟩ := own_shape hv2; subst hve)
          have hset := (One.refl bl w5).set 0 (.slice nA nN nC)
          have hn5 := New.append (hnew4.alloc (.cells #[.slice oA K.length oC] 30)) (HL4.out.own.alloc (.cells #[.slice oA K.length oC] 30)) hf2
          have hn6 := New.one hn5 hset (by omega)
          have hf45 : Fr (fun k => (Value.slice lA lN lC).ownBlock = some k) w4 w5 := (New.to ((New.refl w4).alloc (.cells #[.slice oA K.length oC] 30))).trans hf2
          have hrow : ∀ g, (Value.slice lA lN lC).ownBlock = some g → ∀ (t : TypeId) cs, t ≠ 30 → ¬ Blk w4 g t cs := fun g hg t cs ht hc => HL4.out.own.blk_ne hc (fun e => ht e.symm) hg
          have hokx : ∀ z, Sli.ok w4 z → Sli.ok (w5.setCell ⟨bl, 0, none⟩ (.slice nA nN nC)) z := fun z hz =>
            (hz.fr hf45 fun g cs hg => hrow g hg 3 cs (by decide)).fr hset fun g cs hg hc => by
              subst hg
              exact hbl5.ne_ hc (by decide) rfl
          have hv6 := hv2.fr hset fun g hg e => hv2.blk_ne hbl5 (by decide) (by rw [hg, e])
          have hbt5 := Fr.blk hf45 hbt4 fun hs => hrow bt hs _ _ (by decide) hbt4
          have hbt6 := hset.blk hbt5 (by omega)
          have ht5 : Tab (w5.setCell ⟨bl, 0, none⟩ (.slice nA nN nC)) b bm (List.replicate (Int.toNat 12) (-1)) 0 := by
            obtain ⟨l, hml', _⟩ := ht4.map
            refine (ht4.fr hf45 (fun hs => hrow b hs _ _ (by decide) ht4.blk) fun hs => HL4.out.own.not_map hml' hs).fr hset (fun e => ht4.blk.ne_ HL4.out.blk (by decide) e) fun e => HL4.out.blk.not_map hml' e.symm
          have hL6 : Lists w.heap.size (w5.setCell ⟨bl, 0, none⟩ (.slice nA nN nC)) bl (.slice nA nN nC) (xs ++ [(⟨oA, oC, K⟩ : Sli)]) := ⟨hbl5.set_ 0 _, hv6, fun z hz => by
            rcases List.mem_append.1 hz with hz | hz
            · exact hokx z (HL4.out.ok z hz)
            · rw [List.mem_singleton.1 hz]; exact hokx _ HYOK.out⟩
          go_roundw
          case rel =>
            refine ⟨k + 1, xs ++ [(⟨oA, oC, K⟩ : Sli)], _, by omega, ?_, by go_num, by rw [List.length_append, hxk]; rfl, by rw [HWSN.out]; omega, hL6, fun l hl => ?_, ht5, hbt6, hn6⟩
            · rw [HWSN.out]; simp
            · rw [List.map_append] at hl
              rcases List.mem_append.1 hl with hl | hl
              · exact HASC.out l hl
              · rw [List.mem_singleton.1 hl]; exact HKA.out
          case measure => simp [intOf]; omega
    · obtain rfl : k = ws.length := by omega
      have hI0 : TwoInv (List.replicate 12 (-1)) (xs.map Sli.l) := TwoInv.start HASC.out
      obtain ⟨T, hT⟩ : ∃ T, T = wantP (xs.map Sli.l) := ⟨_, rfl⟩
      have hT2 : T ≤ 200 := by omega
      obtain ⟨lA, lC, hlv, hlC⟩ := hL.own.form
      subst hlv
      generalize hnn : xs.length = n at *
      have hn10 : n ≤ 10 := by omega
      clear hxk
      have HI0 := Lib.hid hI0
      rw [← hT]
      have HT := Lib.hid hT
      have ht' : Tab wr b bm (List.replicate 12 (-1)) 0 := ht
      clear hI0 hT HASC HC hwk ht
      have hmf : ∀ (fn : Fn) (first cap : Array Value) (w : World), (Instr.makeFunc fn first cap).run Try.prog w = .ok (.func fn first cap) w := fun _ _ _ _ => rfl
      go_wp2
      go_loopw [68] (fun vi wr => ∃ (j : Nat) (O : List Int) (N : Int) (xs : List Sli), j ≤ ts.length ∧ vi = .int .i64 j ∧ Turning w.heap.size T n wr b bm bl bt (.slice lA n lC) O N xs ∧ New w wr) (fun vi _ => ts.length - (intOf vi).toNat)
      case atStart => exact ⟨0, _, 0, xs, Nat.zero_le _, rfl, ⟨ht', hbt, hL, HI0.out, hnn, by rw [HT.out]; simp⟩, hnew⟩
      case round =>
        obtain ⟨j, O, N, xs, hjl, rfl, hS, hnew⟩ := hrel
        clear ht' hbt hL hnn
        have e0 : wr.cell? ⟨bl, 0, none⟩ = some (.slice lA n lC) := hS.lists.blk.cell 0
        by_cases hjt : j < ts.length
        · obtain ⟨y, hy⟩ : ∃ y, ts[j]? = some y := ⟨_, List.getElem?_eq_getElem hjt⟩
          have hyb := bounds_u8 (HTU.out y (List.mem_of_getElem? hy))
          obtain ⟨tb, to, rfl, hcell⟩ := HB.out (by rintro rfl; simp at hy)
          have e1 : wr.cell? ⟨tb, to + j, none⟩ = some (.int .u8 y) := Fr.cell hnew (hcell j y hy) id
          have hy1 := hyb.1
          have hy2 := hyb.2
          clear hcell hy hyb
          rcases Nat.eq_zero_or_pos n with h0 | h0
          · have hn0 : decide (0 < (n : Int)) = false := decide_eq_false (by omega)
            have hn1 : decide (0 < n) = false := decide_eq_false (by omega)
            clear h0
            go_wp2
            go_roundw
            case rel => exact ⟨j + 1, O, N, xs, by omega, by go_num, hS, hnew⟩
            case measure => simp [intOf]; omega
          · obtain ⟨ii, hii⟩ : ∃ ii : Nat, y % (n : Int) = ii := ⟨(y % (n : Int)).toNat, by have := Int.emod_nonneg y (by omega : (n : Int) ≠ 0); omega⟩
            have hin : ii < n := by
              have := Int.emod_lt_of_pos y (by omega : (0 : Int) < n)
              omega
            have hn0 : decide (0 < (n : Int)) = true := decide_eq_true (by omega)
            go_wp2_with fail
            refine (hS.step hn10 hT2 hb hm ii hin hnew).mono ?_
            rintro e w2 ⟨rfl, N2, xs2, hS2, _, hn2⟩
            go_wp2
            go_roundw
            case rel => exact ⟨j + 1, _, N2, xs2, by omega, by go_num, hS2, hn2⟩
            case measure => simp [intOf]; omega
        · obtain ⟨M, hM⟩ : ∃ M : Nat, (T : Int) + n + 1 = M := ⟨T + n + 1, by omega⟩
          have hMv : M = T + n + 1 := by omega
          have HMV := Lib.hid hMv
          have hM300 : M ≤ 300 := by omega
          have hpot : potP O (xs.map Sli.l) ≤ T + n := by
            have h1 := potP_le (O := O) (L := xs.map Sli.l)
            have h2 := hS.tot
            have h3 := hS.tab.lo
            rw [List.length_map, hS.len] at h1
            omega
          have HPOT := Lib.hid hpot
          clear hMv hpot
          go_wp2
          go_loopw [91] (fun vi wr => ∃ (r : Nat) (O : List Int) (N : Int) (xs : List Sli), r ≤ M ∧ vi = .int .i64 r ∧ Turning w.heap.size T n wr b bm bl bt (.slice lA n lC) O N xs ∧ New w wr ∧ Hid (potP O (xs.map Sli.l) + r ≤ T + n ∨ potP O (xs.map Sli.l) = 0)) (fun vi _ => M - (intOf vi).toNat)
          case atStart => exact ⟨0, O, N, xs, Nat.zero_le _, rfl, hS, hnew, .inl HPOT.out⟩
          case round =>
            obtain ⟨r, O0, N0, xs0, hrM, rfl, hS0, hnew0, HR⟩ := hrel
            clear hS hnew e0
            have e0 : wr.cell? ⟨bl, 0, none⟩ = some (.slice lA n lC) := hS0.lists.blk.cell 0
            by_cases hrm : r < M
            · obtain ⟨wo, rfl⟩ : ∃ wo : World, wo = wr := ⟨_, rfl⟩
              go_wp2
              go_loopw [95] (fun vi wr => ∃ (i : Nat) (O : List Int) (N : Int) (xs : List Sli), i ≤ n ∧ vi = .int .i64 i ∧ Turning w.heap.size T n wr b bm bl bt (.slice lA n lC) O N xs ∧ New w wr ∧ Hid (Passing O0 (xs0.map Sli.l) O (xs.map Sli.l) i)) (fun vi _ => n - (intOf vi).toNat)
              case atStart => exact ⟨0, O0, N0, xs0, Nat.zero_le _, rfl, hS0, hnew0, Passing.start _ _⟩
              case round =>
                obtain ⟨i, O, N, xs, hin, rfl, hS, hnew, HP⟩ := hrel
                clear e0
                by_cases hil : i < n
                · go_wp2_with fail
                  refine (hS.step hn10 hT2 hb hm i hil hnew).mono ?_
                  rintro e w2 ⟨rfl, N2, xs2, hS2, hmap2, hn2⟩
                  have hP2 := HP.out.step hS.inv (by rw [List.length_map, hS.len]; exact hil)
                  rw [← hmap2] at hP2
                  have HP2 := Lib.hid hP2
                  clear hP2 hmap2
                  go_wp2
                  go_roundw
                  case rel => exact ⟨i + 1, _, N2, xs2, by omega, by go_num, hS2, hn2, HP2.out⟩
                  case measure => simp [intOf]; omega
                · obtain rfl : i = n := by omega
                  have hdone := HP.out.done hS0.inv (by rw [List.length_map, hS0.len])
                  have hR2 : potP O (xs.map Sli.l) + (r + 1) ≤ T + i ∨ potP O (xs.map Sli.l) = 0 := by
                    have h1 := HP.out.le
                    rcases hdone with h2 | h2
                    · rcases HR.out with h3 | h3
                      · exact .inl (by omega)
                      · exact .inr (by omega)
                    · exact .inr (by omega)
                  have HR2 := Lib.hid hR2
                  clear hdone hR2
                  go_wp2
                  go_roundw
                  case rel => exact ⟨r + 1, O, N, xs, by omega, by go_num, hS, hnew, HR2.out⟩
                  case measure => simp [intOf]; omega
            · obtain rfl : r = M := by omega
              have hz : potP O0 (xs0.map Sli.l) = 0 := by
                have h1 := HR.out
                have h2 := HMV.out
                omega
              obtain ⟨hfr, hem⟩ := hS0.inv.done hz
              have hNT : N0 = T := by
                have h1 := hS0.tot
                rw [wantP_nil hem] at h1
                omega
              have HFR := Lib.hid hfr
              have HNT := Lib.hid hNT
              clear hz hfr hem hNT e0
              go_wp2_with fail
              refine (alive_any _).mono ?_
              rintro e w2 ⟨rfl, hn2⟩
              have ht2 := hS0.tab.new hn2
              have k0 : w2.cell? ⟨bt, 0, none⟩ = some (.pointer (some ⟨b, 0, none⟩)) := (hn2.blk hS0.bt).cell 0
              go_wp2_with fail
              refine (lfree_any ht2).mono ?_
              rw [HFR.out]
              rintro e w3 ⟨rfl, rfl⟩
              go_wp2_with fail
              refine (lacquired_any ht2).mono ?_
              rw [HNT.out]
              rintro e w3 ⟨rfl, rfl⟩
              go_wp2
              go_ret
              exact ⟨rfl, hnew0.trans hn2⟩

end Go.Proofs.Ytflalhciohdahaa
