/- sort.Search, over a test that turns nothing. -/
import Derived.Test.YtmhhmenhfocfjaaRows
import Derived.Test.YtmhhmenhfocfjaaInts
import Derived.Test.YtmhhmenhfocfjaaMore
import Derived.WalkKit
import Derived.WalkSpells
import Derived.WalkLawsBesides
import Derived.Deep.QuietTactic
import Derived.BigQuiet
import Derived.Lib.Hide
namespace Go.Proofs.Ytmhhmenhfocfjaa
open Go.RowKit

set_option maxHeartbeats 1600000 in
theorem search_any (g : Nat) (cb : Array Value) (n : Nat) (p : Nat → Bool) (w : World) (hE : ∀ args w, (callFunc g args).run Try.prog w = .ok (.enter g args) w) (hn : n ≤ 1000000)
    (hf : ∀ (W : World) (i : Nat), i < n → New w W → Calls Try.prog g (#[.int .i64 i] ++ cb) W fun e w' => e = .returned (.bool (p i)) ∧ New w w') :
    Calls Try.prog 33 #[.int .i64 n, .func (.func g) #[] cb] w fun e w' => ∃ k : Nat, e = .returned (.int .i64 k) ∧ k ≤ n ∧ (k = 0 ∨ p (k - 1) = false) ∧ (k = n ∨ p k = true) ∧ New w w' := by
  have HF := Lib.hid hf
  clear hf
  go_enter Try.func33, Try.ntmps33
  go_wp2
  go_loopw [5, 6] (fun vi vj wr => ∃ i j : Nat, vi = .int .i64 i ∧ vj = .int .i64 j ∧ i ≤ j ∧ j ≤ n ∧ Hid ((i = 0 ∨ p (i - 1) = false) ∧ (j = n ∨ p j = true)) ∧ New w wr) (fun vi vj _ => (intOf vj - intOf vi).toNat)
  case atStart => exact ⟨0, n, rfl, rfl, Nat.zero_le _, Nat.le_refl _, ⟨.inl rfl, .inl rfl⟩, New.refl _⟩
  case round =>
    obtain ⟨i, j, rfl, rfl, hij, hjn, HI, hnew⟩ := hrel
    by_cases hlt : i < j
    · obtain ⟨h, hh⟩ : ∃ h, h = (i + j) / 2 := ⟨_, rfl⟩
      have h1 : i ≤ h := by omega
      have h2 : h < j := by omega
      have hd : decide ((i : Int) < j) = true := decide_eq_true (by omega)
      have e1 : IntKind.i64.wrap ((i : Int) + j) = (i : Int) + j := IntWalk.i64_in _ (by omega)
      have e2 : IntKind.u64.wrap ((i : Int) + j) = (i : Int) + j := by simp [IntKind.wrap, IntKind.bits, IntKind.signed]; omega
      have e3 : ((i : Int) + j) / 2 = h := by omega
      have e4 : IntKind.i64.wrap (h : Int) = h := IntWalk.i64_in _ (by omega)
      have hcall := HF.out _ h (by omega) hnew
      have HH := Lib.hid hh
      clear hh
      cases hp : p h
      all_goals
        rw [hp] at hcall
        have HP := Lib.hid hp
        have HCALL := Lib.hid hcall
        clear hp hcall
        go_wp2_with fail
        refine HCALL.out.mono ?_
        rintro e w1 ⟨rfl, hn1⟩
        go_wp2
      · go_roundw
        case rel => exact ⟨h + 1, j, by go_num, rfl, by omega, hjn, ⟨.inr (by rw [Nat.add_sub_cancel]; exact HP.out), HI.out.2⟩, hn1⟩
        case measure => simp [intOf]; omega
      · go_roundw
        case rel => exact ⟨i, h, rfl, rfl, h1, by omega, ⟨HI.out.1, .inr HP.out⟩, hn1⟩
        case measure => simp [intOf]; omega
    · have hd : decide ((i : Int) < j) = false := decide_eq_false (by omega)
      have hij' : i = j := by omega
      have HIJ := Lib.hid hij'
      clear hij'
      go_wp2
      go_ret
      exact ⟨i, rfl, by omega, HI.out.1, by have := HI.out.2; rw [← HIJ.out] at this; exact this, hnew⟩

end Go.Proofs.Ytmhhmenhfocfjaa
