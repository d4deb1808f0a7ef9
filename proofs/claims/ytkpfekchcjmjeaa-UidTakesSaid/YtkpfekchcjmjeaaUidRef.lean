/- The reference's counter: each function's contract, over a block that holds its three numbers. -/
import Derived.Test.YtkpfekchcjmjeaaRows
import Derived.Test.YtkpfekchcjmjeaaWords
import Derived.WalkKit
import Derived.WalkSpells
import Derived.WalkLawsBesides
namespace Go.Proofs.Ytkpfekchcjmjeaa
open Go.RowKit

def RCtr (w : World) (b : Nat) (first next taken : Int) : Prop := Blk w b 39 #[.int .u64 first, .int .u64 next, .int .u64 taken]

set_option maxHeartbeats 400000 in
theorem rnew_any (next : Int) (w : World) (h0 : 0 ≤ next) (h1 : next ≤ 4294967295) :
    Calls Try.prog 17 #[.int .u32 next] w fun e w' => e = .returned (.agg #[.int .u64 (max next 1), .int .u64 (max next 1), .int .u64 0]) ∧ New w w' := by
  rcases Int.lt_or_le next 1 with hn | hn
  · obtain rfl : next = 0 := by omega
    go_enter Try.func17, Try.ntmps17
    go_wp2
    exact bodyPost_ret (v := .agg #[.int .u64 1, .int .u64 1, .int .u64 0]) (by simp [results, Try.results17, go_sem]) rfl ⟨rfl, (New.refl _).alloc _⟩
  · rw [show max next 1 = next by omega]
    go_enter Try.func17, Try.ntmps17
    go_wp2
    exact bodyPost_ret (v := .agg #[.int .u64 next, .int .u64 next, .int .u64 0]) (by simp [results, Try.results17, go_sem]) rfl ⟨rfl, (New.refl _).alloc _⟩

section
variable {w : World} {b : Nat} {f n t : Int}
set_option maxHeartbeats 400000 in
theorem rtake_ok (h : RCtr w b f n t) (h0 : 0 ≤ n) (h1 : n < 4294967295) (ht0 : 0 ≤ t) (ht1 : t < 9223372036854775807) :
    Calls Try.prog 18 #[.pointer (some ⟨b, 0, none⟩)] w fun e w' => e = .returned (.tuple #[.int .u64 n, .int .i64 0]) ∧ RCtr w' b f (n + 1) (t + 1) ∧ One b w w' := by
  have c1 : w.cell? ⟨b, 1, none⟩ = some (.int .u64 n) := h.cell 1
  have c2 : w.cell? ⟨b, 2, none⟩ = some (.int .u64 t) := h.cell 2
  have f1 : w.frozen? ⟨b, 1, none⟩ = false := h.frozen 1
  have f2 : w.frozen? ⟨b, 2, none⟩ = false := h.frozen 2
  go_enter Try.func18, Try.ntmps18
  go_wp2
  go_ret2
  exact ⟨rfl, (h.set_ 1 _).set_ 2 _, (One.refl _ _).set _ _ |>.set _ _⟩

set_option maxHeartbeats 400000 in
theorem rtake_full (h : RCtr w b f n t) (h1 : n = 4294967295) :
    Calls Try.prog 18 #[.pointer (some ⟨b, 0, none⟩)] w fun e w' => e = .returned (.tuple #[.int .u64 0, .int .i64 6]) ∧ w = w' := by
  subst h1
  have c1 : w.cell? ⟨b, 1, none⟩ = some (.int .u64 4294967295) := h.cell 1
  go_enter Try.func18, Try.ntmps18
  go_wp2
  go_ret2
  exact ⟨rfl, rfl⟩

set_option maxHeartbeats 400000 in
theorem rskip_no (h : RCtr w b f n t) (to : Int) (h0 : 0 ≤ to) (h1 : to ≤ 4294967295) (hle : to ≤ n) :
    Calls Try.prog 19 #[.pointer (some ⟨b, 0, none⟩), .int .u32 to] w fun e w' => e = .returned (.bool false) ∧ w = w' := by
  have c1 : w.cell? ⟨b, 1, none⟩ = some (.int .u64 n) := h.cell 1
  go_enter Try.func19, Try.ntmps19
  go_wp2
  go_ret
  exact ⟨rfl, rfl⟩

set_option maxHeartbeats 400000 in
theorem rskip_yes (h : RCtr w b f n t) (to : Int) (h0 : 0 ≤ to) (h1 : to ≤ 4294967295) (hle : n < to) :
    Calls Try.prog 19 #[.pointer (some ⟨b, 0, none⟩), .int .u32 to] w fun e w' => e = .returned (.bool true) ∧ RCtr w' b f to t ∧ One b w w' := by
  have c1 : w.cell? ⟨b, 1, none⟩ = some (.int .u64 n) := h.cell 1
  have f1 : w.frozen? ⟨b, 1, none⟩ = false := h.frozen 1
  go_enter Try.func19, Try.ntmps19
  go_wp2
  go_ret
  exact ⟨rfl, h.set_ 1 _, (One.refl _ _).set _ _⟩
end

end Go.Proofs.Ytkpfekchcjmjeaa
