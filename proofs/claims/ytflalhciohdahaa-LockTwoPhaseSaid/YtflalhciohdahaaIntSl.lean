/- The library's functions on []int: IndexFunc, ContainsFunc, DeleteFunc, Equal. -/
import Derived.Test.YtflalhciohdahaaRows
import Derived.Test.YtflalhciohdahaaInts
import Derived.WalkKit
import Derived.WalkSpells
import Derived.WalkLawsBesides
import Derived.Deep.QuietTactic
import Derived.BigQuiet
import Derived.Lib.Hide
namespace Go.Proofs.Ytflalhciohdahaa
open Go.RowKit

abbrev okI (x : Int) : Prop := (Lit.int .i64 x).wf = true

/-- Function g, over what it has captured, is the predicate p, in every world in which all that lay in w lies unturned. -/
def IsPredI (w : World) (g : Nat) (lb : Array Value) (p : Int → Bool) : Prop :=
  ∀ (W : World) (x : Int), okI x → New w W → Calls Try.prog g (#[.int .i64 x] ++ lb) W fun e w' => e = .returned (.bool (p x)) ∧ New W w'

theorem entersI (f : Nat) (fn : Func) (c : Code) (hf : Try.prog.funcs[f]? = some fn) (hn : (fn.name == "runtime.NumGoroutine") = false) (hb : fn.body = some c) (args : Array Value) (w : World) : (callFunc f args).run Try.prog w = .ok (.enter f args) w := by
  have h1 : fn.name ≠ "runtime.NumGoroutine" := by simpa using hn
  simp [callFunc, hf, h1, hb]

/-- Where the first hit is. -/
def FirstAtI (p : Int → Bool) (l : List Int) (i : Int) : Prop := (i = -1 ∧ ∀ x ∈ l, p x = false) ∨ ∃ (k : Nat) (x : Int), i = k ∧ l[k]? = some x ∧ p x = true ∧ ∀ y ∈ l.take k, p y = false

set_option maxHeartbeats 1600000 in
theorem iindex_any (g : Nat) (lb : Array Value) (p : Int → Bool) (hE : ∀ args w, (callFunc g args).run Try.prog w = .ok (.enter g args) w) (v : Value) (l : List Int) (w : World) (hp : IsPredI w g lb p) (hv : Rd (intE .i64) w v l) (hok : ∀ x ∈ l, okI x) (hl : l.length ≤ 1000000) :
    Calls Try.prog 33 #[v, .func (.func g) #[] lb] w fun e w' => ∃ i : Int, e = .returned (.int .i64 i) ∧ FirstAtI p l i ∧ New w w' := by
  obtain ⟨A, c, rfl, hc, hcells⟩ := hv.ints
  have HC := Lib.hid hcells
  have HOK := Lib.hid hok
  clear hcells hok hv
  go_enter Try.func33, Try.ntmps33
  go_wp2
  go_loopw [8] (fun vi wr => ∃ k : Nat, k ≤ l.length ∧ vi = .int .i64 k ∧ Hid (∀ x, x ∈ l.take k → p x = false) ∧ New w wr) (fun vi _ => l.length - (intOf vi).toNat)
  case atStart => exact ⟨0, Nat.zero_le _, rfl, fun x hx => by simp at hx, New.refl _⟩
  case round =>
    obtain ⟨k, hk, rfl, HS, hnew⟩ := hrel
    by_cases hkl : k < l.length
    · obtain ⟨x, hx⟩ : ∃ x, l[k]? = some x := ⟨_, List.getElem?_eq_getElem hkl⟩
      obtain ⟨b, off, rfl, hcell⟩ := HC.out (by rintro rfl; simp at hkl)
      have c0 : wr.cell? ⟨b, off + k, none⟩ = some (.int .i64 x) := Fr.cell hnew (hcell k _ hx) id
      have hcall := hp _ x (HOK.out x (List.mem_of_getElem? hx)) hnew
      have HX := Lib.hid hx
      clear hcell hx
      cases hpx : p x
      all_goals
        rw [hpx] at hcall
        have HP := Lib.hid hpx
        have HCALL := Lib.hid hcall
        clear hpx hcall
        go_wp2_with fail
        refine HCALL.out.mono ?_
        rintro e w1 ⟨rfl, hn1⟩
        go_wp2
      · go_roundw
        case rel =>
          refine ⟨k + 1, by omega, by go_num, fun x hx => ?_, hnew.trans hn1⟩
          rw [take_snocI HX.out] at hx
          rcases List.mem_append.1 hx with hx | hx
          · exact HS.out x hx
          · rw [List.mem_singleton.1 hx]; exact HP.out
        case measure => simp [intOf]; omega
      · go_ret
        exact ⟨_, rfl, .inr ⟨k, _, rfl, HX.out, HP.out, HS.out⟩, hnew.trans hn1⟩
    · go_wp2
      go_ret
      refine ⟨_, rfl, .inl ⟨rfl, fun x hx => ?_⟩, hnew⟩
      exact HS.out x (by rw [List.take_of_length_le (by omega)]; exact hx)

theorem FirstAtI.any {p : Int → Bool} {l : List Int} {i : Int} (h : FirstAtI p l i) : decide (0 ≤ i) = l.any p := by
  rcases h with ⟨rfl, h⟩ | ⟨k, x, rfl, hx, hp, _⟩
  · have : l.any p = false := List.any_eq_false.2 fun x hx => by simp [h x hx]
    rw [this]; rfl
  · have : l.any p = true := List.any_eq_true.2 ⟨x, List.mem_of_getElem? hx, hp⟩
    rw [this]; simp

set_option maxHeartbeats 1600000 in
theorem icontains_any (g : Nat) (lb : Array Value) (p : Int → Bool) (hE : ∀ args w, (callFunc g args).run Try.prog w = .ok (.enter g args) w) (v : Value) (l : List Int) (w : World) (hp : IsPredI w g lb p) (hv : Rd (intE .i64) w v l) (hok : ∀ x ∈ l, okI x) (hl : l.length ≤ 1000000) :
    Calls Try.prog 31 #[v, .func (.func g) #[] lb] w fun e w' => e = .returned (.bool (l.any p)) ∧ New w w' := by
  have h := iindex_any g lb p hE v l w hp hv hok hl
  have H := Lib.hid h
  generalize hq : l.any p = q
  have HQ := Lib.hid hq
  clear h hp hv hE hq
  go_enter Try.func31, Try.ntmps31
  go_wp2_with fail
  refine H.out.mono ?_
  rintro e w1 ⟨i, rfl, hf, hn⟩
  have hi := hf.any.trans HQ.out
  clear hf
  cases q
  all_goals
    go_wp2
    go_ret
    exact ⟨rfl, hn⟩

set_option maxHeartbeats 3200000 in
/-- DeleteFunc over a row that is new since w0, where the predicate was made. -/
theorem idelete_any (g : Nat) (lb : Array Value) (p : Int → Bool) (hE : ∀ args w, (callFunc g args).run Try.prog w = .ok (.enter g args) w) (v : Value) (l : List Int) (w0 w : World) (hp : IsPredI w0 g lb p) (hn0 : New w0 w)
    (hv : Own (intE .i64) 3 w0.heap.size w v l) (hok : ∀ x ∈ l, okI x) (hl : l.length ≤ 100000) :
    Calls Try.prog 35 #[v, .func (.func g) #[] lb] w fun e w' => ∃ o, e = .returned o ∧ Own (intE .i64) 3 w0.heap.size w' o (l.filter fun x => !p x) ∧ Fr (fun k => v.ownBlock = some k) w w' := by
  have hzero : ∀ w, (zeroValue 3).run Try.prog w = .ok (.int .i64 0) w := fun w => by kernel_rfl
  have hp1 : IsPredI w g lb p := fun W x ho h => hp W x ho (hn0.trans h)
  have hidx := iindex_any g lb p hE v l w hp1 hv.rd hok (by omega)
  obtain ⟨A, c, rfl, hc⟩ := hv.form
  have HP0 := Lib.hid hp
  have HI := Lib.hid hidx
  have HOK := Lib.hid hok
  clear hp hp1 hidx hok
  obtain ⟨r, hr⟩ : ∃ r, r = l.filter fun x => !p x := ⟨_, rfl⟩
  rw [← hr]
  have HRE := Lib.hid hr
  clear hr
  go_enter Try.func35, Try.ntmps35
  go_wp2_with fail
  refine HI.out.mono ?_
  rintro e w1 ⟨i, rfl, hfirst, hn1⟩
  have hv1 := hv.new hn1
  rcases hfirst with ⟨rfl, hall⟩ | ⟨k, x, rfl, hx, hpx, hbef⟩
  · have hfl : (l.filter fun x => !p x) = l := List.filter_eq_self.2 fun x hx => by simp [hall x hx]
    have hr := HRE.out.trans hfl
    subst hr
    clear hfl hall HRE
    go_wp2
    go_ret
    exact ⟨_, rfl, hv1, hn1.mono fun _ _ h => h.elim⟩
  · have hkl : k < l.length := (List.getElem?_eq_some_iff.1 hx).1
    have hstart : l.take k = (l.take (k + 1)).filter fun x => !p x := by
      rw [take_snocI hx, List.filter_append, List.filter_eq_self.2 fun y hy => by simp [hbef y hy]]
      simp [hpx]
    have HSTART := Lib.hid hstart
    clear hx hpx hbef hstart HI
    obtain ⟨gg, rfl⟩ := hv1.some1 (by omega)
    have hn01 := hn0.trans hn1
    have hv1b : w0.heap.size ≤ gg := (hv1.block rfl).1
    obtain ⟨wo, rfl⟩ : ∃ wo : World, wo = w1 := ⟨_, rfl⟩
    have hkb : ((k : Int) == -1) = false := by simp
    go_wp2
    go_loopw [5, 6] (fun vi vj wr => ∃ (i j : Nat) (m : List Int), i < j ∧ j ≤ l.length ∧ vi = .int .i64 i ∧ vj = .int .i64 j ∧ m.length = l.length ∧ Hid (m.take i = (l.take j).filter fun x => !p x) ∧ Hid (∀ t, j ≤ t → m[t]? = l[t]?) ∧
      Own (intE .i64) 3 w0.heap.size wr (.slice (some ⟨gg, 0, none⟩) l.length c) m ∧ Fr (fun q => gg = q) wo wr) (fun _ vj _ => l.length - (intOf vj).toNat)
    case atStart => exact ⟨k, k + 1, l, by omega, by omega, rfl, by go_num, rfl, HSTART.out, fun _ _ => rfl, hv1, Fr.refl _ _⟩
    case round =>
      obtain ⟨i, j, m, hij, hjl, rfl, rfl, hm, HT, HR, ho, hf⟩ := hrel
      have hn0r : New w0 wr := Fr.trans' hn01 hf fun q hq hs => by omega
      clear hv1
      by_cases hjn : j < l.length
      · obtain ⟨x, hx⟩ : ∃ x, l[j]? = some x := ⟨_, List.getElem?_eq_getElem hjn⟩
        have hxm : m[j]? = some x := by rw [HR.out j (Nat.le_refl _)]; exact hx
        obtain ⟨y, hy⟩ : ∃ y, m[i]? = some y := ⟨_, List.getElem?_eq_getElem (by omega)⟩
        have hsn := take_snocI hx
        have c0 : wr.cell? ⟨gg, j, none⟩ = some (.int .i64 x) := ho.icell hxm
        have hcall := HP0.out wr x (HOK.out x (List.mem_of_getElem? hx)) hn0r
        have HSN := Lib.hid hsn
        have HY := Lib.hid hy
        clear hx hxm hsn hy
        cases hpx : p x
        · rw [hpx] at hcall
          have HPX := Lib.hid hpx
          have HCALL := Lib.hid hcall
          clear hpx hcall
          go_wp2_with fail
          refine HCALL.out.mono ?_
          rintro e w2 ⟨rfl, hn2⟩
          have ho2 := ho.new hn2
          have e0 : w2.cell? ⟨gg, i, none⟩ = some (.int .i64 y) := ho2.icell HY.out
          have f0 : w2.frozen? ⟨gg, i, none⟩ = false := ho2.ifrozen _
          have hil : i < m.length := by omega
          have hst := ho2.istored i x
          have HST := Lib.hid hst
          have hf2 : Fr (fun q => gg = q) wo w2 := hf.trans (hn2.mono fun _ _ h => h.elim)
          clear hst ho2 ho
          go_wp2
          go_roundw
          case rel =>
            refine ⟨i + 1, j + 1, m.set i x, by omega, by omega, by go_num, by go_num, by rw [List.length_set]; exact hm, ?_, ?_, HST.out, ?_⟩
            · show (m.set i x).take (i + 1) = _
              rw [HSN.out, List.filter_append, take_snocI (List.getElem?_set_self hil), List.take_set_of_le (Nat.le_refl _), HT.out]
              simp [HPX.out]
            · intro t ht
              rw [List.getElem?_set_ne (by omega)]
              exact HR.out t (by omega)
            · exact Fr.setCell (p := ⟨gg, _, none⟩) hf2 (fun _ => rfl) _
          case measure => simp [intOf]; omega
        · rw [hpx] at hcall
          have HPX := Lib.hid hpx
          have HCALL := Lib.hid hcall
          clear hpx hcall
          go_wp2_with fail
          refine HCALL.out.mono ?_
          rintro e w2 ⟨rfl, hn2⟩
          have ho2 := ho.new hn2
          have hf2 : Fr (fun q => gg = q) wo w2 := hf.trans (hn2.mono fun _ _ h => h.elim)
          clear ho
          go_wp2
          go_roundw
          case rel =>
            refine ⟨i, j + 1, m, by omega, by omega, rfl, by go_num, hm, ?_, fun t ht => HR.out t (by omega), ho2, hf2⟩
            show m.take i = _
            rw [HSN.out, List.filter_append, HT.out]
            simp [HPX.out]
          case measure => simp [intOf]; omega
      · obtain rfl : j = l.length := by omega
        have ht := HT.out
        rw [List.take_length] at ht
        have hr := HRE.out.trans ht.symm
        subst hr
        clear ht HRE
        have hz1 : ∀ u ∈ (Value.int .i64 0).cells.toList, u.oneCell' = true := by
          intro u hu
          have hu2 : u ∈ [Value.int .i64 0] := hu
          rw [List.mem_singleton.1 hu2]
          rfl
        obtain ⟨w3, hr3, ho3, hf3⟩ := run_clear_own (P := Try.prog) (E := intE .i64) (ty := 0) Try.underlying30 hzero rfl hz1 ho i (c - i) (by omega)
        have hr3' : (Builtin.clear_ #[30] 0 #[.slice (some ⟨gg, i, none⟩) (l.length - i) (c - i)]).run Try.prog wr = .ok (.tuple #[]) w3 := by
          have e1 : i * (intE .i64).sz = i := Nat.mul_one i
          rw [e1] at hr3
          exact hr3
        clear hr3
        go_wp2
        go_ret
        have hf13 : Fr (fun q => gg = q) wo w3 := hf.trans (hf3.mono fun _ _ h => h.symm)
        exact ⟨_, rfl, ho3, (hn1.mono fun _ _ h => h.elim).trans (hf13.mono fun _ _ h => by rw [h]; rfl)⟩

set_option maxHeartbeats 1600000 in
theorem iequal_any (v u : Value) (l m : List Int) (w : World) (hv : Rd (intE .i64) w v l) (hu : Rd (intE .i64) w u m) (hl : l.length ≤ 1000000) (hm : m.length ≤ 1000000) :
    Calls Try.prog 22 #[v, u] w fun e w' => e = .returned (.bool (decide (l = m))) ∧ New w w' := by
  obtain ⟨A, c, rfl, hc, hA⟩ := hv.ints
  obtain ⟨B, d, rfl, hd, hB⟩ := hu.ints
  have HA := Lib.hid hA
  have HB := Lib.hid hB
  clear hA hB hv hu
  by_cases hlm : l.length = m.length
  · generalize hq : decide (l = m) = q
    have HQ := Lib.hid hq
    have HLM := Lib.hid hlm
    rw [← hlm]
    rw [← hlm] at hm
    clear hq hlm
    go_enter Try.func22, Try.ntmps22
    go_wp2
    go_loopw [13] (fun vi wr => ∃ k : Nat, k ≤ l.length ∧ vi = .int .i64 k ∧ Hid (∀ i, i < k → l[i]? = m[i]?) ∧ New w wr) (fun vi _ => l.length - (intOf vi).toNat)
    case atStart => exact ⟨0, Nat.zero_le _, rfl, fun i hi => by omega, New.refl _⟩
    case round =>
      obtain ⟨k, hk, rfl, HS, hnew⟩ := hrel
      by_cases hkl : k < l.length
      · obtain ⟨x, hx⟩ : ∃ x, l[k]? = some x := ⟨_, List.getElem?_eq_getElem hkl⟩
        obtain ⟨y, hy⟩ : ∃ y, m[k]? = some y := ⟨_, List.getElem?_eq_getElem (by have := HLM.out; omega)⟩
        obtain ⟨b, off, rfl, hcell⟩ := HA.out (by rintro rfl; simp at hkl)
        obtain ⟨b', off', rfl, hcell'⟩ := HB.out (by rintro rfl; simp at hy)
        have c0 : wr.cell? ⟨b, off + k, none⟩ = some (.int .i64 x) := Fr.cell hnew (hcell k _ hx) id
        have d0 : wr.cell? ⟨b', off' + k, none⟩ = some (.int .i64 y) := Fr.cell hnew (hcell' k _ hy) id
        have HX := Lib.hid hx
        have HY := Lib.hid hy
        clear hcell hcell' hx hy
        cases hxy : (x != y)
        all_goals
          have HXY := Lib.hid hxy
          go_wp2_with fail
          go_quiet (fail)
          go_wp2
        · go_roundw
          case rel =>
            refine ⟨k + 1, by omega, by go_num, fun i hi => ?_, hnew.drewN _⟩
            rcases Nat.lt_or_ge i k with h | h
            · exact HS.out i h
            · obtain rfl : i = k := by omega
              have : x = y := by simpa using HXY.out
              rw [HX.out, HY.out, this]
          case measure => simp [intOf]; omega
        · go_ret
          have hne : q = false := by
            rw [← HQ.out]
            refine decide_eq_false fun e => ?_
            have h1 := HX.out
            rw [e, HY.out] at h1
            injection h1 with h1
            have h2 : x ≠ y := by simpa using HXY.out
            exact h2 h1.symm
          rw [hne]
          exact ⟨rfl, hnew.drewN _⟩
      · go_wp2
        go_ret
        have he : q = true := by
          rw [← HQ.out]
          refine decide_eq_true (List.ext_getElem? fun i => ?_)
          rcases Nat.lt_or_ge i k with h | h
          · exact HS.out i h
          · rw [List.getElem?_eq_none (by omega), List.getElem?_eq_none (by have := HLM.out; omega)]
        rw [he]
        exact ⟨rfl, hnew⟩
  · have hne : decide (l = m) = false := decide_eq_false fun e => hlm (by rw [e])
    rw [hne]
    have hb : ((l.length : Int) != (m.length : Int)) = true := by simp; omega
    clear hne hlm
    go_enter Try.func22, Try.ntmps22
    go_wp2
    go_ret
    exact ⟨rfl, New.refl _⟩

end Go.Proofs.Ytflalhciohdahaa
