/- The library's Clone, Grow, Concat, DeleteFunc at events. -/
import Derived.Test.YtjaapenojppnpaaQueueHas
import Derived.Test.YtjaapenojppnpaaRefQ15
import Derived.Test.YtjaapenojppnpaaRowOps
import Derived.Test.YtjaapenojppnpaaEventKeeps
namespace Go.Proofs.Ytjaapenojppnpaa
open Go.RowKit

set_option maxHeartbeats 1600000 in
theorem clone_any (v : Value) (l : List Ev) (w : World) (hv : Rd evE w v l) (hl : l.length ≤ 100000) :
    Calls Try.prog 26 #[v] w fun e w' => ∃ o, e = .returned o ∧ Own evE 29 w.heap.size w' o l ∧ New w w' := by
  obtain ⟨i0, hi, hz0, hz1, hz2⟩ := info_parts ev_info
  have h0 := Own.empty evE 29 w.heap.size w (Nat.le_refl _)
  have HV := Lib.hid hv
  obtain ⟨A, c, rfl, hc, hcells⟩ := hv
  have hq := fun n => Lib.run_eql_slice_nil (P := Try.prog) w 22 _ A n c 0 0 Try.underlying22
  cases A with
  | none =>
    have hn : l = [] := by
      cases l with
      | nil => rfl
      | cons x l => obtain ⟨b, off, h, _⟩ := hcells (by simp); cases h
    clear hcells
    subst hn
    simp only [Option.isNone_none] at hq
    go_enter Try.func26, Try.ntmps26
    go_wp2
    go_ret
    exact ⟨_, rfl, Own.nil _ _ _ _, New.refl _⟩
  | some ad =>
    obtain ⟨b, off, sp⟩ := ad
    clear hcells
    simp only [Option.isNone_some] at hq
    go_enter Try.func26, Try.ntmps26
    go_wp2_with (at_builtin; refine wpList_append (E := evE) rfl _ _ _ rfl Try.underlying22 hi hz0 hz1 hz2 rfl h0 rfl (HV.out.alloc _) rfl (by unfold maxLen; simp; omega) (by simp; omega) (by simp) ?_; intro v1 w1 hv1 hf1 hl1)
    have hn1 : New w w1 := New.append ((New.refl w).alloc _) h0 hf1
    rw [List.nil_append] at hv1
    go_ret
    exact ⟨_, rfl, hv1, hn1⟩

set_option maxHeartbeats 1600000 in
theorem grow_nil (n : Nat) (w : World) (hn : n ≤ 1000000) :
    Calls Try.prog 35 #[.slice none 0 0, .int .i64 n] w fun e w' => ∃ o, e = .returned o ∧ Own evE 29 w.heap.size w' o [] ∧ New w w' := by
  obtain ⟨i0, hi, hz0, hz1, hz2⟩ := info_parts ev_info
  rcases Nat.eq_zero_or_pos n with h0 | h0
  · subst h0
    go_enter Try.func35, Try.ntmps35
    go_wp2
    go_ret
    exact ⟨_, rfl, Own.nil _ _ _ _, New.refl _⟩
  · obtain ⟨w1, c, hrun0, hnc, hcm, ho, hn1⟩ := run_grow_nil (P := Try.prog) (E := evE) (base := w.heap.size) w 22 3 22 Try.underlying22 Try.underlying3 hi hz0 hz1 hz2 rfl n h0 hn (by omega) (Nat.le_refl _)
    have h1 : ¬ ((n : Int) < 0) := by omega
    unfold maxLen at hcm
    go_enter Try.func35, Try.ntmps35
    go_wp2_with (at_builtin; refine Lib.wpList_append_run _ rfl _ _ _ _ rfl _ _ rfl rfl _ _ hrun0 ?_)
    go_ret
    exact ⟨_, rfl, ho, hn1⟩

/-- Where the first hit is. -/
def FirstAt (p : Ev → Bool) (l : List Ev) (i : Int) : Prop := (i = -1 ∧ ∀ x ∈ l, p x = false) ∨ ∃ (k : Nat) (x : Ev), i = k ∧ l[k]? = some x ∧ p x = true ∧ ∀ y ∈ l.take k, p y = false

set_option maxHeartbeats 1600000 in
theorem indexFunc_first (g : Nat) (lb : Array Value) (p : Ev → Bool) (hE : ∀ args w, (callFunc g args).run Try.prog w = .ok (.enter g args) w) (v : Value) (l : List Ev) (w : World) (hp : IsPred w g lb p) (hv : Rd evE w v l) (hl : l.length ≤ 1000000) :
    Calls Try.prog 34 #[v, .func (.func g) #[] lb] w fun e w' => ∃ i : Int, e = .returned (.int .i64 i) ∧ FirstAt p l i ∧ New w w' := by
  obtain ⟨A, c, rfl, hc, hcells⟩ := hv
  have HC := Lib.hid hcells
  clear hcells
  go_enter Try.func34, Try.ntmps34
  go_wp2
  go_loopw [8] (fun vi wr => ∃ k : Nat, k ≤ l.length ∧ vi = .int .i64 k ∧ Hid (∀ x, x ∈ l.take k → p x = false) ∧ New w wr) (fun vi _ => l.length - (intOf vi).toNat)
  case atStart => exact ⟨0, Nat.zero_le _, rfl, fun x hx => by simp at hx, New.refl _⟩
  case round =>
    obtain ⟨k, hk, rfl, HS, hnew⟩ := hrel
    by_cases hkl : k < l.length
    · obtain ⟨x, hx⟩ : ∃ x, l[k]? = some x := ⟨_, List.getElem?_eq_getElem hkl⟩
      obtain ⟨b, off, rfl, hcell⟩ := HC.out (by rintro rfl; simp at hkl)
      obtain ⟨xk, xu, xf⟩ := x
      have c0 : wr.cell? ⟨b, off + k * 3, none⟩ = some (.int .i64 xk) := Fr.cell hnew (hcell k _ hx 0 _ rfl) id
      have c1 : wr.cell? ⟨b, off + k * 3 + 1, none⟩ = some (.int .u32 xu) := Fr.cell hnew (hcell k _ hx 1 _ rfl) id
      have c2 : wr.cell? ⟨b, off + k * 3 + 2, none⟩ = some (.int .u8 xf) := Fr.cell hnew (hcell k _ hx 2 _ rfl) id
      have HX := Lib.hid hx
      clear hcell hx
      have hcall := hp _ ⟨xk, xu, xf⟩ hnew
      cases hpx : p ⟨xk, xu, xf⟩
      all_goals
        rw [hpx] at hcall
        have HP := Lib.hid hpx
        have HCALL := Lib.hid hcall
        clear hpx hcall
        go_wp2_with fail
        refine HCALL.out.mono ?_
        rintro e w1 ⟨rfl, hn1⟩
        go_wp2
      · go_roundw
        case rel =>
          refine ⟨k + 1, by omega, by go_num, fun x hx => ?_, hnew.trans hn1⟩
          rw [take_snoc HX.out] at hx
          rcases List.mem_append.1 hx with hx | hx
          · exact HS.out x hx
          · rw [List.mem_singleton.1 hx]; exact HP.out
        case measure => simp [intOf]; omega
      · go_ret
        exact ⟨_, rfl, .inr ⟨k, _, rfl, HX.out, HP.out, HS.out⟩, hnew.trans hn1⟩
    · go_wp2
      go_ret
      refine ⟨_, rfl, .inl ⟨rfl, fun x hx => ?_⟩, hnew⟩
      exact HS.out x (by rw [List.take_of_length_le (by omega)]; exact hx)


set_option maxHeartbeats 3200000 in
/-- Concat of two. -/
theorem concat_any (va vb : Value) (l m : List Ev) (g : Nat) (w : World) (ha : Rd evE w va l) (hb : Rd evE w vb m) (hg : Blk w g 22 #[va, vb]) (hl : l.length ≤ 1000) (hm : m.length ≤ 1000) :
    Calls Try.prog 27 #[.slice (some ⟨g, 0, none⟩) 2 2] w fun e w' => ∃ o, e = .returned o ∧ Own evE 29 w.heap.size w' o (l ++ m) ∧ New w w' := by
  obtain ⟨i0, hi, hz0, hz1, hz2⟩ := info_parts ev_info
  have HA := Lib.hid ha
  have HB := Lib.hid hb
  obtain ⟨A, c, rfl, hc, _⟩ := ha
  obtain ⟨B, d, rfl, hd, _⟩ := hb
  have c0 : w.cell? ⟨g, 0, none⟩ = some (.slice A l.length c) := hg.cell 0
  have c1 : w.cell? ⟨g, 1, none⟩ = some (.slice B m.length d) := hg.cell 1
  go_enter Try.func27, Try.ntmps27
  go_wp2
  go_loopw [3, 11] (fun vs vi wr => ∃ k s : Nat, vi = .int .i64 k ∧ vs = .int .i64 s ∧ ((k = 0 ∧ s = 0) ∨ (k = 1 ∧ s = l.length) ∨ (k = 2 ∧ s = l.length + m.length)) ∧ w = wr) (fun _ vi _ => 2 - (intOf vi).toNat)
  case atStart => exact ⟨0, 0, rfl, rfl, .inl ⟨rfl, rfl⟩, rfl⟩
  case round =>
    obtain ⟨k, s, rfl, rfl, hks, rfl⟩ := hrel
    rcases hks with ⟨rfl, rfl⟩ | ⟨rfl, rfl⟩ | ⟨rfl, rfl⟩
    · go_wp2
      go_roundw
      case rel => exact ⟨1, l.length, rfl, rfl, .inr (.inl ⟨rfl, rfl⟩), trivial⟩
      case measure => decide
    · go_wp2
      go_roundw
      case rel => exact ⟨2, l.length + m.length, rfl, by go_num, .inr (.inr ⟨rfl, rfl⟩), trivial⟩
      case measure => decide
    · go_wp2_with fail
      have hgr := grow_nil (l.length + m.length) w (by omega)
      rw [Int.natCast_add] at hgr
      refine hgr.mono ?_
      rintro e w1 ⟨o, rfl, ho, hn1⟩
      have d0 : w1.cell? ⟨g, 0, none⟩ = some (.slice A l.length c) := (hn1.blk hg).cell 0
      have d1 : w1.cell? ⟨g, 1, none⟩ = some (.slice B m.length d) := (hn1.blk hg).cell 1
      have hg1 := hn1.blk hg
      obtain ⟨wo, rfl⟩ : ∃ wo : World, wo = w1 := ⟨_, rfl⟩
      go_wp2
      go_loopw [6, 27] (fun vo vi wr => ∃ (k : Nat) (t : List Ev), vi = .int .i64 k ∧ ((k = 0 ∧ t = []) ∨ (k = 1 ∧ t = l) ∨ (k = 2 ∧ t = l ++ m)) ∧ Own evE 29 w.heap.size wr vo t ∧ New w wr) (fun _ vi _ => 2 - (intOf vi).toNat)
      case atStart => exact ⟨0, [], rfl, .inl ⟨rfl, rfl⟩, ho, hn1⟩
      case round =>
        obtain ⟨k, t, rfl, hkt, ho2, hn2⟩ := hrel
        have hg2 := hn2.blk hg
        have e0 : wr.cell? ⟨g, 0, none⟩ = some (.slice A l.length c) := hg2.cell 0
        have e1 : wr.cell? ⟨g, 1, none⟩ = some (.slice B m.length d) := hg2.cell 1
        have hsz := hn2.size
        rcases hkt with ⟨rfl, rfl⟩ | ⟨rfl, rfl⟩ | ⟨rfl, rfl⟩
        · go_wp2_with (at_builtin; refine wpList_append (E := evE) rfl _ _ _ rfl Try.underlying22 hi hz0 hz1 hz2 rfl ho2 rfl (HA.out.new hn2) rfl (by unfold maxLen; rw [List.length_nil]; omega) (by rw [List.length_nil]; omega) hsz ?_; intro v3 w3 hv3 hf3 hl3)
          have hn3 := New.append hn2 ho2 hf3
          go_roundw
          case rel => exact ⟨1, _, rfl, .inr (.inl ⟨rfl, rfl⟩), hv3, hn3⟩
          case measure => decide
        · go_wp2_with (at_builtin; refine wpList_append (E := evE) rfl _ _ _ rfl Try.underlying22 hi hz0 hz1 hz2 rfl ho2 rfl (HB.out.new hn2) rfl (by unfold maxLen; omega) (by omega) hsz ?_; intro v3 w3 hv3 hf3 hl3)
          have hn3 := New.append hn2 ho2 hf3
          go_roundw
          case rel => exact ⟨2, _, rfl, .inr (.inr ⟨rfl, rfl⟩), hv3, hn3⟩
          case measure => decide
        · go_wp2
          go_ret
          exact ⟨_, rfl, ho2, hn2⟩

set_option maxHeartbeats 3200000 in
/-- DeleteFunc over a row that is new since w0, where the predicate was made. -/
theorem deleteFunc_any (g : Nat) (lb : Array Value) (p : Ev → Bool) (hE : ∀ args w, (callFunc g args).run Try.prog w = .ok (.enter g args) w) (v : Value) (l : List Ev) (w0 w : World) (hp : IsPred w0 g lb p) (hn0 : New w0 w)
    (hv : Own evE 29 w0.heap.size w v l) (hl : l.length ≤ 100000) :
    Calls Try.prog 25 #[v, .func (.func g) #[] lb] w fun e w' => ∃ o, e = .returned o ∧ Own evE 29 w0.heap.size w' o (l.filter fun x => !p x) ∧ Fr (fun k => v.ownBlock = some k) w w' := by
  have hzero : ∀ w, (zeroValue 29).run Try.prog w = .ok (.agg #[.int .i64 0, .int .u32 0, .int .u8 0]) w := fun w => by kernel_rfl
  have hp1 : IsPred w g lb p := fun W x h => hp W x (hn0.trans h)
  have hidx := indexFunc_first g lb p hE v l w hp1 hv.rd (by omega)
  obtain ⟨A, c, rfl, hc⟩ := hv.form
  have HP0 := Lib.hid hp
  have HI := Lib.hid hidx
  clear hp hp1 hidx
  obtain ⟨r, hr⟩ : ∃ r, r = l.filter fun x => !p x := ⟨_, rfl⟩
  rw [← hr]
  have HRE := Lib.hid hr
  clear hr
  go_enter Try.func25, Try.ntmps25
  go_wp2_with fail
  refine HI.out.mono ?_
  rintro e w1 ⟨i, rfl, hfirst, hn1⟩
  have hv1 := hv.new hn1
  rcases hfirst with ⟨rfl, hall⟩ | ⟨k, x, rfl, hx, hpx, hbef⟩
  · have hfl : (l.filter fun x => !p x) = l := List.filter_eq_self.2 fun x hx => by simp [hall x hx]
    have hr := HRE.out.trans hfl
    subst hr
    clear hfl hall HRE
    go_wp2
    go_ret
    exact ⟨_, rfl, hv1, fr_or hn1 fun _ h => h.elim⟩
  · have hkl : k < l.length := (List.getElem?_eq_some_iff.1 hx).1
    have hstart : l.take k = (l.take (k + 1)).filter fun x => !p x := by
      rw [take_snoc hx, List.filter_append, List.filter_eq_self.2 fun y hy => by simp [hbef y hy]]
      simp [hpx]
    have HSTART := Lib.hid hstart
    clear hx hpx hbef hstart HI
    obtain ⟨gg, rfl⟩ := hv1.some_ (by omega)
    have hn01 := hn0.trans hn1
    have hv1b : w0.heap.size ≤ gg := (hv1.block rfl).1
    obtain ⟨wo, rfl⟩ : ∃ wo : World, wo = w1 := ⟨_, rfl⟩
    have hkb : ((k : Int) == -1) = false := by simp
    go_wp2
    go_loopw [5, 6] (fun vi vj wr => ∃ (i j : Nat) (m : List Ev), i < j ∧ j ≤ l.length ∧ vi = .int .i64 i ∧ vj = .int .i64 j ∧ m.length = l.length ∧ Hid (m.take i = (l.take j).filter fun x => !p x) ∧ Hid (∀ t, j ≤ t → m[t]? = l[t]?) ∧
      Own evE 29 w0.heap.size wr (.slice (some ⟨gg, 0, none⟩) l.length c) m ∧ Fr (fun q => gg = q) wo wr) (fun _ vj _ => l.length - (intOf vj).toNat)
    case atStart => exact ⟨k, k + 1, l, by omega, by omega, rfl, by go_num, rfl, HSTART.out, fun _ _ => rfl, hv1, Fr.refl _ _⟩
    case round =>
      obtain ⟨i, j, m, hij, hjl, rfl, rfl, hm, HT, HR, ho, hf⟩ := hrel
      have hn0r : New w0 wr := Fr.trans' hn01 hf fun q hq hs => by omega
      clear hv1
      by_cases hjn : j < l.length
      · obtain ⟨x, hx⟩ : ∃ x, l[j]? = some x := ⟨_, List.getElem?_eq_getElem hjn⟩
        have hxm : m[j]? = some x := by rw [HR.out j (Nat.le_refl _)]; exact hx
        obtain ⟨y, hy⟩ : ∃ y, m[i]? = some y := ⟨_, List.getElem?_eq_getElem (by omega)⟩
        have hsn := filter_snoc (fun x => !p x) hx
        obtain ⟨xk, xu, xf⟩ := x
        have c0 : wr.cell? ⟨gg, j * 3, none⟩ = some (.int .i64 xk) := ho.cell_at (j := 0) hxm rfl
        have c1 : wr.cell? ⟨gg, j * 3 + 1, none⟩ = some (.int .u32 xu) := ho.cell_at (j := 1) hxm rfl
        have c2 : wr.cell? ⟨gg, j * 3 + 2, none⟩ = some (.int .u8 xf) := ho.cell_at (j := 2) hxm rfl
        have hnb := hn0r.alloc (.cells #[.int .i64 xk, .int .u32 xu, .int .u8 xf] 29)
        have hb0 : Blk (wr.alloc (.cells #[.int .i64 xk, .int .u32 xu, .int .u8 xf] 29)) wr.heap.size 29 #[.int .i64 xk, .int .u32 xu, .int .u8 xf] := Blk.new _ _ _
        have hcall := HP0.out _ ⟨xk, xu, xf⟩ hnb
        have hf1 := hf.alloc (.cells #[.int .i64 xk, .int .u32 xu, .int .u8 xf] 29)
        have ho1 := ho.alloc (.cells #[.int .i64 xk, .int .u32 xu, .int .u8 xf] 29)
        have hgl := (ho.block rfl).2
        have HSN := Lib.hid hsn
        have HY := Lib.hid hy
        clear hx hxm hsn hy
        cases hpx : p ⟨xk, xu, xf⟩
        · rw [hpx] at hcall
          have HPX := Lib.hid hpx
          have HCALL := Lib.hid hcall
          clear hpx hcall
          go_wp2_with fail
          refine HCALL.out.mono ?_
          rintro e w2 ⟨rfl, hn2⟩
          have hb2 := hn2.blk hb0
          have d0 : w2.cell? ⟨wr.heap.size, 0, none⟩ = some (.int .i64 xk) := hb2.cell 0
          have d1 : w2.cell? ⟨wr.heap.size, 1, none⟩ = some (.int .u32 xu) := hb2.cell 1
          have d2 : w2.cell? ⟨wr.heap.size, 2, none⟩ = some (.int .u8 xf) := hb2.cell 2
          have ho2 := ho1.new hn2
          have e0 : w2.cell? ⟨gg, i * 3, none⟩ = some (.int .i64 y.k) := ho2.cell_at (j := 0) HY.out rfl
          have e1 : w2.cell? ⟨gg, i * 3 + 1, none⟩ = some (.int .u32 y.u) := ho2.cell_at (j := 1) HY.out rfl
          have e2 : w2.cell? ⟨gg, i * 3 + 2, none⟩ = some (.int .u8 y.f) := ho2.cell_at (j := 2) HY.out rfl
          have f0 : w2.frozen? ⟨gg, i * 3, none⟩ = false := ho2.frozen _
          have f1 : w2.frozen? ⟨gg, i * 3 + 1, none⟩ = false := ho2.frozen _
          have f2 : w2.frozen? ⟨gg, i * 3 + 2, none⟩ = false := ho2.frozen _
          have hil : i < m.length := by omega
          have s0 := Own.stored ho2 HY.out (j := 0) (u := .int .i64 xk) (y := ⟨xk, y.u, y.f⟩) (by decide) rfl
          have s1 := Own.stored s0 (List.getElem?_set_self hil) (j := 1) (u := .int .u32 xu) (y := ⟨xk, xu, y.f⟩) (by decide) rfl
          have s2 := Own.stored s1 (List.getElem?_set_self (by rw [List.length_set]; exact hil)) (j := 2) (u := .int .u8 xf) (y := ⟨xk, xu, xf⟩) (by decide) rfl
          rw [List.set_set, List.set_set] at s2
          have S2 := Lib.hid s2
          have hf2 : Fr (fun q => gg = q) wo w2 := hf1.trans (fr_or hn2 fun _ h => h.elim)
          clear s0 s1 s2 ho2 ho1 ho hb0 hb2
          go_wp2
          go_roundw
          case rel =>
            refine ⟨i + 1, j + 1, m.set i ⟨xk, xu, xf⟩, by omega, by omega, by go_num, by go_num, by rw [List.length_set]; exact hm, ?_, ?_, S2.out, ?_⟩
            · show (m.set i ⟨xk, xu, xf⟩).take (i + 1) = _
              rw [HSN.out, HPX.out, take_snoc (List.getElem?_set_self hil), List.take_set_of_le (Nat.le_refl _), HT.out]
              simp
            · intro t ht
              rw [List.getElem?_set_ne (by omega)]
              exact HR.out t (by omega)
            · exact Fr.setCell (p := ⟨gg, _, none⟩) (Fr.setCell (p := ⟨gg, _, none⟩) (Fr.setCell (p := ⟨gg, _, none⟩) hf2 (fun _ => rfl) _) (fun _ => rfl) _) (fun _ => rfl) _
          case measure => simp [intOf]; omega
        · rw [hpx] at hcall
          have HPX := Lib.hid hpx
          have HCALL := Lib.hid hcall
          clear hpx hcall
          go_wp2_with fail
          refine HCALL.out.mono ?_
          rintro e w2 ⟨rfl, hn2⟩
          have ho2 := ho1.new hn2
          have hf2 : Fr (fun q => gg = q) wo w2 := hf1.trans (fr_or hn2 fun _ h => h.elim)
          clear ho ho1 hb0
          go_wp2
          go_roundw
          case rel =>
            refine ⟨i, j + 1, m, by omega, by omega, rfl, by go_num, hm, ?_, fun t ht => HR.out t (by omega), ho2, hf2⟩
            show m.take i = _
            rw [HSN.out, HPX.out, HT.out]
            simp
          case measure => simp [intOf]; omega
      · obtain rfl : j = l.length := by omega
        have ht := HT.out
        rw [List.take_length] at ht
        have hr := HRE.out.trans ht.symm
        subst hr
        clear ht HRE
        have hz1 : ∀ u ∈ (Value.agg #[.int .i64 0, .int .u32 0, .int .u8 0]).cells.toList, u.oneCell' = true := by
          intro u hu
          have hu2 : u ∈ [Value.int .i64 0, Value.int .u32 0, Value.int .u8 0] := hu
          simp only [List.mem_cons, List.not_mem_nil, or_false] at hu2
          rcases hu2 with rfl | rfl | rfl <;> rfl
        obtain ⟨w3, hr3, ho3, hf3⟩ := run_clear_own (P := Try.prog) (E := evE) (ty := 0) Try.underlying22 hzero rfl hz1 ho i (c - i) (by omega)
        have hr3' : (Builtin.clear_ #[22] 0 #[.slice (some ⟨gg, i * 3, none⟩) (l.length - i) (c - i)]).run Try.prog wr = .ok (.tuple #[]) w3 := hr3
        clear hr3
        go_wp2
        go_ret
        have hf13 : Fr (fun q => gg = q) wo w3 := hf.trans (fr_or hf3 fun _ h => h.symm)
        exact ⟨_, rfl, ho3, (fr_or hn1 fun _ h => h.elim).trans (fr_or hf13 fun _ h => by rw [h]; rfl)⟩

end Go.Proofs.Ytjaapenojppnpaa
