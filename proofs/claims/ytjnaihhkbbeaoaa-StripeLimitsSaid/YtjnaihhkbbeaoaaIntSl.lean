/- The library's functions on []int: IndexFunc, ContainsFunc, DeleteFunc, Equal. -/
import Derived.Test.YtjnaihhkbbeaoaaRows
import Derived.Test.YtjnaihhkbbeaoaaInts
import Derived.WalkKit
import Derived.WalkSpells
import Derived.WalkLawsBesides
import Derived.Deep.QuietTactic
import Derived.BigQuiet
import Derived.Lib.Hide
namespace Go.Proofs.Ytjnaihhkbbeaoaa
open Go.RowKit

abbrev okI (x : Int) : Prop := (Lit.int .i64 x).wf = true

/-- Function g, over what it has captured, is the predicate p, in every world in which all that lay in w lies unturned. -/
def IsPredI (w : World) (g : Nat) (lb : Array Value) (p : Int → Bool) : Prop :=
  ∀ (W : World) (x : Int), okI x → New w W → Calls Try.prog g (#[.int .i64 x] ++ lb) W fun e w' => e = .returned (.bool (p x)) ∧ New W w'

theorem entersI (f : Nat) (fn : Func) (c : Code) (hf : Try.prog.funcs[f]? = some fn) (hn : (fn.name == "runtime.NumGoroutine") = false) (hb : fn.body = some c) (args : Array Value) (w : World) : (callFunc f args).run Try.prog w = .ok (.enter f args) w := by
  have h1 : fn.name ≠ "runtime.NumGoroutine" := by simpa using hn
  simp [callFunc, hf, h1, hb]

/-- Where the first hit is. -/
def FirstAtI (p : Int → Bool) (l : List Int) (i : Int) : Prop := (i = -1 ∧ ∀ x ∈ l, p x = false) ∨ ∃ (k : Nat) (x : Int), i = k ∧ l[k]? = some x ∧ p x = true ∧ ∀ y ∈ l.take k, p y = false


set_option maxHeartbeats 1600000 in
theorem iequal_any (v u : Value) (l m : List Int) (w : World) (hv : Rd (intE .i64) w v l) (hu : Rd (intE .i64) w u m) (hl : l.length ≤ 1000000) (hm : m.length ≤ 1000000) :
    Calls Try.prog 21 #[v, u] w fun e w' => e = .returned (.bool (decide (l = m))) ∧ New w w' := by
  obtain ⟨A, c, rfl, hc, hA⟩ := hv.ints
  obtain ⟨B, d, rfl, hd, hB⟩ := hu.ints
  have HA := Lib.hid hA
  have HB := Lib.hid hB
  clear hA hB hv hu
  by_cases hlm : l.length = m.length
  · generalize hq : decide (l = m) = q
    have HQ := Lib.hid hq
    have HLM := Lib.hid hlm
    rw [← hlm]
    rw [← hlm] at hm
    clear hq hlm
    go_enter Try.func21, Try.ntmps21
    go_wp2
    go_loopw [13] (fun vi wr => ∃ k : Nat, k ≤ l.length ∧ vi = .int .i64 k ∧ Hid (∀ i, i < k → l[i]? = m[i]?) ∧ New w wr) (fun vi _ => l.length - (intOf vi).toNat)
    case atStart => exact ⟨0, Nat.zero_le _, rfl, fun i hi => by omega, New.refl _⟩
    case round =>
      obtain ⟨k, hk, rfl, HS, hnew⟩ := hrel
      by_cases hkl : k < l.length
      · obtain ⟨x, hx⟩ : ∃ x, l[k]? = some x := ⟨_, List.getElem?_eq_getElem hkl⟩
        obtain ⟨y, hy⟩ : ∃ y, m[k]? = some y := ⟨_, List.getElem?_eq_getElem (by have := HLM.out; omega)⟩
        obtain ⟨b, off, rfl, hcell⟩ := HA.out (by rintro rfl; simp at hkl)
        obtain ⟨b', off', rfl, hcell'⟩ := HB.out (by rintro rfl; simp at hy)
        have c0 : wr.cell? ⟨b, off + k, none⟩ = some (.int .i64 x) := Fr.cell hnew (hcell k _ hx) id
        have d0 : wr.cell? ⟨b', off' + k, none⟩ = some (.int .i64 y) := Fr.cell hnew (hcell' k _ hy) id
        have HX := Lib.hid hx
        have HY := Lib.hid hy
        clear hcell hcell' hx hy
        cases hxy : (x != y)
        all_goals
          have HXY := Lib.hid hxy
          go_wp2_with fail
          go_quiet (fail)
          go_wp2
        · go_roundw
          case rel =>
            refine ⟨k + 1, by omega, by go_num, fun i hi => ?_, hnew.drewN _⟩
            rcases Nat.lt_or_ge i k with h | h
            · exact HS.out i h
            · obtain rfl : i = k := by omega
              have : x = y := by simpa using HXY.out
              rw [HX.out, HY.out, this]
          case measure => simp [intOf]; omega
        · go_ret
          have hne : q = false := by
            rw [← HQ.out]
            refine decide_eq_false fun e => ?_
            have h1 := HX.out
            rw [e, HY.out] at h1
            injection h1 with h1
            have h2 : x ≠ y := by simpa using HXY.out
            exact h2 h1.symm
          rw [hne]
          exact ⟨rfl, hnew.drewN _⟩
      · go_wp2
        go_ret
        have he : q = true := by
          rw [← HQ.out]
          refine decide_eq_true (List.ext_getElem? fun i => ?_)
          rcases Nat.lt_or_ge i k with h | h
          · exact HS.out i h
          · rw [List.getElem?_eq_none (by omega), List.getElem?_eq_none (by have := HLM.out; omega)]
        rw [he]
        exact ⟨rfl, hnew⟩
  · have hne : decide (l = m) = false := decide_eq_false fun e => hlm (by rw [e])
    rw [hne]
    have hb : ((l.length : Int) != (m.length : Int)) = true := by simp; omega
    clear hne hlm
    go_enter Try.func21, Try.ntmps21
    go_wp2
    go_ret
    exact ⟨rfl, New.refl _⟩

end Go.Proofs.Ytjnaihhkbbeaoaa
