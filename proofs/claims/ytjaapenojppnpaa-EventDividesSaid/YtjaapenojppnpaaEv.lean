/- Events as elements; the names of kinds. -/
import Derived.Test.YtjaapenojppnpaaRows
import Derived.Test.YtjaapenojppnpaaWords
import Derived.Test.YtjaapenojppnpaaRws
import Derived.WalkKit
import Derived.WalkSpells
import Derived.WalkLawsBesides
import Derived.Deep.QuietTactic
import Derived.BigQuiet
namespace Go.Proofs.Ytjaapenojppnpaa
open Go.RowKit

/-- An event: its kind, its identifier, its flags. -/
structure Ev where
  k : Int
  u : Int
  f : Int
  deriving DecidableEq

def Ev.val (e : Ev) : Value := .agg #[.int .i64 e.k, .int .u32 e.u, .int .u8 e.f]
def evE : Elem Ev where
  enc e := [.int .i64 e.k, .int .u32 e.u, .int .u8 e.f]
  sz := 3
  len _ := rfl
  one x u hu := by simp at hu; rcases hu with rfl | rfl | rfl <;> rfl
  pos := by omega

/-- Each number fits its kind. -/
def Ev.wf (e : Ev) : Prop := (Lit.int .i64 e.k).wf = true ∧ (Lit.int .u32 e.u).wf = true ∧ (Lit.int .u8 e.f).wf = true

theorem ev_info : (Try.prog.info? 29).map (fun i => (i.zero, i.size, i.bytes)) = some (some (.agg #[.int .i64 0, .int .u32 0, .int .u8 0]), 3, 16) := by kernel_rfl

/-- The name of a kind. -/
def nameOf (k : Int) : ByteArray := if k = 1 then "arrived".toUTF8 else if k = 2 then "gone".toUTF8 else if k = 3 then "changed".toUTF8 else ⟨#[]⟩

set_option maxHeartbeats 400000 in
theorem name_any (k : Int) (w : World) : Calls Try.prog 13 #[.int .i64 k] w fun e w' => e = .returned (.string (nameOf k)) ∧ w = w' := by
  by_cases h1 : k = 1
  · subst h1
    go_enter Try.func13, Try.ntmps13
    go_wp2
    go_ret
    exact ⟨rfl, rfl⟩
  · by_cases h2 : k = 2
    · subst h2
      go_enter Try.func13, Try.ntmps13
      go_wp2
      go_ret
      exact ⟨rfl, rfl⟩
    · by_cases h3 : k = 3
      · subst h3
        go_enter Try.func13, Try.ntmps13
        go_wp2
        go_ret
        exact ⟨rfl, rfl⟩
      · have hn : nameOf k = ⟨#[]⟩ := by simp [nameOf, h1, h2, h3]
        rw [hn]
        clear hn
        have b1 : (k == 1) = false := by simp [h1]
        have b2 : (k == 2) = false := by simp [h2]
        have b3 : (k == 3) = false := by simp [h3]
        go_enter Try.func13, Try.ntmps13
        go_wp2
        go_ret
        exact ⟨rfl, rfl⟩

theorem nameOf_empty (k : Int) : (nameOf k).toList.isEmpty = !decide (1 ≤ k ∧ k ≤ 3) := by
  by_cases h1 : k = 1
  · subst h1; decide +kernel
  · by_cases h2 : k = 2
    · subst h2; decide +kernel
    · by_cases h3 : k = 3
      · subst h3; decide +kernel
      · have hd : ¬ (1 ≤ k ∧ k ≤ 3) := by omega
        simp only [nameOf, h1, h2, h3, hd, if_false, decide_false, Bool.not_false]
        decide +kernel

set_option maxHeartbeats 400000 in
theorem known_any (v : Ev) (w : World) : Calls Try.prog 31 #[v.val] w fun e w' => e = .returned (.bool (decide (1 ≤ v.k ∧ v.k ≤ 3))) ∧ New w w' := by
  have hn := nameOf_empty v.k
  obtain ⟨k, u, f⟩ := v
  unfold Ev.val
  simp only at hn ⊢
  generalize decide (1 ≤ k ∧ k ≤ 3) = b at hn ⊢
  have HN := Lib.hid hn
  clear hn
  go_enter Try.func31, Try.ntmps31
  go_wp2_with (go_at_call 13; refine (name_any k _).mono ?_; generalize nameOf k = s at HN ⊢; rintro e w' ⟨rfl, rfl⟩)
  go_ret
  refine ⟨?_, (New.refl _).alloc _⟩
  show Ending.returned (.bool (!s.toList.isEmpty)) = _
  rw [HN.out, Bool.not_not]

end Go.Proofs.Ytjaapenojppnpaa
