/- The counter of package uid: each method's contract, over a block that holds the counter's seven numbers. -/
import Derived.Test.YtkpfekchcjmjeaaRows
import Derived.Test.YtkpfekchcjmjeaaWords
import Derived.WalkKit
import Derived.WalkSpells
import Derived.WalkLawsBesides
import Derived.Deep.RegionWith
import Derived.Deep.QuietTactic
import Derived.BigQuiet
import Derived.StillTailTactics
import Derived.Deep.DeepMust
import Derived.Deep.DeepFit
namespace Go.Proofs.Ytkpfekchcjmjeaa
open Go.RowKit

/-- Block b is a counter: the next identifier, how many were taken, the first, the validity, whether that is determined. -/
def Ctr (w : World) (b : Nat) (next taken first val done : Int) : Prop :=
  Blk w b 64 #[.int .u32 next, .int .u64 taken, .int .u32 first, .int .u32 val, .int .u32 done, .int .i32 0, .int .u32 0]

theorem Ctr.c0 {w b n t f v d} (h : Ctr w b n t f v d) : w.cell? ⟨b, 0, none⟩ = some (.int .u32 n) := h.cell 0
theorem Ctr.c1 {w b n t f v d} (h : Ctr w b n t f v d) : w.cell? ⟨b, 1, none⟩ = some (.int .u64 t) := h.cell 1
theorem Ctr.c2 {w b n t f v d} (h : Ctr w b n t f v d) : w.cell? ⟨b, 2, none⟩ = some (.int .u32 f) := h.cell 2
theorem Ctr.c3 {w b n t f v d} (h : Ctr w b n t f v d) : w.cell? ⟨b, 3, none⟩ = some (.int .u32 v) := h.cell 3
theorem Ctr.c4 {w b n t f v d} (h : Ctr w b n t f v d) : w.cell? ⟨b, 4, none⟩ = some (.int .u32 d) := h.cell 4
theorem Ctr.c5 {w b n t f v d} (h : Ctr w b n t f v d) : w.cell? ⟨b, 5, none⟩ = some (.int .i32 0) := h.cell 5

set_option maxHeartbeats 400000 in
/-- (*atomic.Uint32).Store -/
theorem store32 (a : Addr) (u : Value) (y : Int) (w : World) (hc : w.cell? a = some u) (hz : w.frozen? a = false) :
    Calls Try.prog 20 #[.pointer (some a), .int .u32 y] w fun e w' => e = .returned (.tuple #[]) ∧ w' = w.setCell a (.int .u32 y) := by
  have hs := run_call_store (P := Try.prog) Try.func27 (by kernel_rfl) (by kernel_rfl) (by kernel_rfl) (by kernel_rfl) (y := y) (k := .u32) hc hz
  go_enter Try.func20, Try.ntmps20
  go_wp2
  go_end0
  exact ⟨rfl, rfl⟩

set_option maxHeartbeats 400000 in
/-- (*atomic.Uint32).Load -/
theorem load32 (a : Addr) (x : Int) (w : World) (hc : w.cell? a = some (.int .u32 x)) :
    Calls Try.prog 21 #[.pointer (some a)] w fun e w' => e = .returned (.int .u32 x) ∧ w = w' := by
  have hs := run_call_load (P := Try.prog) Try.func28 (by kernel_rfl) (by kernel_rfl) (by kernel_rfl) .u32 (by kernel_rfl) hc
  go_enter Try.func21, Try.ntmps21
  go_wp2
  go_ret
  exact ⟨rfl, rfl⟩

set_option maxHeartbeats 400000 in
/-- (*atomic.Uint64).Load -/
theorem load64 (a : Addr) (x : Int) (w : World) (hc : w.cell? a = some (.int .u64 x)) :
    Calls Try.prog 24 #[.pointer (some a)] w fun e w' => e = .returned (.int .u64 x) ∧ w = w' := by
  have hs := run_call_load (P := Try.prog) Try.func31 (by kernel_rfl) (by kernel_rfl) (by kernel_rfl) .u64 (by kernel_rfl) hc
  go_enter Try.func24, Try.ntmps24
  go_wp2
  go_ret
  exact ⟨rfl, rfl⟩

set_option maxHeartbeats 400000 in
/-- (*atomic.Uint32).CompareAndSwap where the cell holds the old number. -/
theorem cas32 (a : Addr) (x y : Int) (w : World) (hc : w.cell? a = some (.int .u32 x)) (hz : w.frozen? a = false) :
    Calls Try.prog 22 #[.pointer (some a), .int .u32 x, .int .u32 y] w fun e w' => e = .returned (.bool true) ∧ w.setCell a (.int .u32 y) = w' := by
  have hs := run_call_cas_hit (P := Try.prog) Try.func29 (by kernel_rfl) (by kernel_rfl) (by kernel_rfl) .u32 (by kernel_rfl) (y := y) hc hz
  go_enter Try.func22, Try.ntmps22
  go_wp2
  go_ret
  exact ⟨rfl, rfl⟩

set_option maxHeartbeats 400000 in
/-- (*atomic.Uint64).Add of 1. -/
theorem add64 (a : Addr) (x : Int) (w : World) (hc : w.cell? a = some (.int .u64 x)) (hz : w.frozen? a = false) (h0 : 0 ≤ x) (h1 : x < 9223372036854775807) :
    Calls Try.prog 23 #[.pointer (some a), .int .u64 1] w fun e w' => e = .returned (.int .u64 (x + 1)) ∧ w.setCell a (.int .u64 (x + 1)) = w' := by
  have hs := run_call_add (P := Try.prog) Try.func30 (by kernel_rfl) (by kernel_rfl) (by kernel_rfl) .u64 (by kernel_rfl) (x := x) (y := 1) (s := x + 1) hc hz (by simp [go_sem, IntKind.wrap_u64]; omega)
  go_enter Try.func23, Try.ntmps23
  go_wp2
  go_ret
  exact ⟨rfl, rfl⟩

set_option maxHeartbeats 400000 in
theorem new_any (next : Int) (w : World) (h0 : 0 ≤ next) (h1 : next ≤ 4294967295) :
    Calls Try.prog 9 #[.int .u32 next] w fun e w' => e = .returned (.pointer (some ⟨w.heap.size, 0, none⟩)) ∧ Ctr w' w.heap.size (max next 1) 0 (max next 1) 0 0 ∧ New w w' := by
  rcases Int.lt_or_le next 1 with hn | hn
  · go_enter Try.func9, Try.ntmps9
    go_wp2_with fail
    refine wp_tail 8 (by kernel_rfl) (by kernel_rfl) ?_
    simp only [List.take_succ_cons, List.take_zero, List.drop_succ_cons, List.drop_zero]
    repeat still_step
    refine wpStill_nil ?_
    go_wp2_with (go_at_call 20; refine (store32 _ (.int .u32 0) _ _ (by simp) (by simp)).mono ?_; rintro e w' ⟨rfl, rfl⟩)
    go_ret
    rw [show max next 1 = 1 by omega]
    exact ⟨rfl, Blk.new _ _ _, ((Fr.refl _ _).alloc _).drew⟩
  · go_enter Try.func9, Try.ntmps9
    go_wp2_with fail
    refine wp_tail 8 (by kernel_rfl) (by kernel_rfl) ?_
    simp only [List.take_succ_cons, List.take_zero, List.drop_succ_cons, List.drop_zero]
    repeat still_step
    refine wpStill_nil ?_
    go_wp2_with (go_at_call 20; refine (store32 _ (.int .u32 0) _ _ (by simp) (by simp)).mono ?_; rintro e w' ⟨rfl, rfl⟩)
    go_ret
    rw [show max next 1 = next by omega]
    exact ⟨rfl, Blk.new _ _ _, ((Fr.refl _ _).alloc _).drew⟩

section
variable {w : World} {b : Nat} {n t f v d : Int}

set_option maxHeartbeats 400000 in
theorem next_any (h : Ctr w b n t f v d) :
    Calls Try.prog 14 #[.pointer (some ⟨b, 0, none⟩)] w fun e w' => e = .returned (.int .u32 n) ∧ w = w' := by
  have c0 := h.c0
  go_enter Try.func14, Try.ntmps14
  go_wp2_with (go_at_call 21; refine (load32 _ _ _ c0).mono ?_; rintro e w' ⟨rfl, rfl⟩)
  go_ret
  exact ⟨rfl, rfl⟩

set_option maxHeartbeats 400000 in
theorem left_any (h : Ctr w b n t f v d) (h0 : 0 ≤ n) (h1 : n ≤ 4294967295) :
    Calls Try.prog 12 #[.pointer (some ⟨b, 0, none⟩)] w fun e w' => e = .returned (.int .u32 (4294967295 - n)) ∧ w = w' := by
  have c0 := h.c0
  go_enter Try.func12, Try.ntmps12
  go_wp2_with (go_at_call 21; refine (load32 _ _ _ c0).mono ?_; rintro e w' ⟨rfl, rfl⟩)
  go_ret
  exact ⟨rfl, rfl⟩

set_option maxHeartbeats 400000 in
theorem taken_any (h : Ctr w b n t f v d) :
    Calls Try.prog 15 #[.pointer (some ⟨b, 0, none⟩)] w fun e w' => e = .returned (.int .u64 t) ∧ w = w' := by
  have c1 := h.c1
  go_enter Try.func15, Try.ntmps15
  go_wp2_with (go_at_call 24; refine (load64 _ _ _ c1).mono ?_; rintro e w' ⟨rfl, rfl⟩)
  go_ret
  exact ⟨rfl, rfl⟩

set_option maxHeartbeats 800000 in
theorem take_ok (h : Ctr w b n t f v d) (h0 : 0 ≤ n) (h1 : n < 4294967295) (ht0 : 0 ≤ t) (ht1 : t < 9223372036854775807) :
    Calls Try.prog 10 #[.pointer (some ⟨b, 0, none⟩)] w fun e w' => e = .returned (.tuple #[.int .u32 n, .int .i64 0]) ∧ Ctr w' b (n + 1) (t + 1) f v d ∧ One b w w' := by
  have c0 := h.c0
  have c1 : (w.setCell ⟨b, 0, none⟩ (.int .u32 (n + 1))).cell? ⟨b, 1, none⟩ = some (.int .u64 t) := (World.cell?_setCell_other _ _ _ _ (by simp)).trans h.c1
  have f0 : w.frozen? ⟨b, 0, none⟩ = false := h.frozen 0
  have f1 : w.frozen? ⟨b, 1, none⟩ = false := h.frozen 1
  go_enter Try.func10, Try.ntmps10
  go_wp2
  refine wp_loop_rounds 1 ?_
  rw [rounds_succ]
  go_wp2_with (first
    | (go_at_call 21; refine (load32 _ _ _ c0).mono ?_; rintro e w' ⟨rfl, rfl⟩)
    | (go_at_call 22; refine (cas32 _ _ _ _ c0 f0).mono ?_; rintro e w' ⟨rfl, rfl⟩)
    | (go_at_call 23; refine (add64 _ _ _ c1 (by simp [f1]) ht0 ht1).mono ?_; rintro e w' ⟨rfl, rfl⟩))
  go_ret2
  exact ⟨rfl, (h.set_ 0 _).set_ 1 _, (One.refl _ _).set _ _ |>.set _ _⟩

set_option maxHeartbeats 800000 in
theorem take_full (h : Ctr w b n t f v d) (h1 : n = 4294967295) :
    Calls Try.prog 10 #[.pointer (some ⟨b, 0, none⟩)] w fun e w' => e = .returned (.tuple #[.int .u32 0, .int .i64 6]) ∧ w = w' := by
  subst h1
  have c0 := h.c0
  go_enter Try.func10, Try.ntmps10
  go_wp2
  refine wp_loop_rounds 1 ?_
  rw [rounds_succ]
  go_wp2_with (first
    | (go_at_call 21; refine (load32 _ _ _ c0).mono ?_; rintro e w' ⟨rfl, rfl⟩))
  go_ret2
  exact ⟨rfl, rfl⟩

set_option maxHeartbeats 800000 in
theorem skip_no (h : Ctr w b n t f v d) (to : Int) (h1 : to ≤ n) :
    Calls Try.prog 13 #[.pointer (some ⟨b, 0, none⟩), .int .u32 to] w fun e w' => e = .returned (.bool false) ∧ w = w' := by
  have c0 := h.c0
  go_enter Try.func13, Try.ntmps13
  go_wp2
  refine wp_loop_rounds 1 ?_
  rw [rounds_succ]
  go_wp2_with (first
    | (go_at_call 21; refine (load32 _ _ _ c0).mono ?_; rintro e w' ⟨rfl, rfl⟩))
  go_ret
  exact ⟨rfl, rfl⟩

set_option maxHeartbeats 800000 in
theorem skip_yes (h : Ctr w b n t f v d) (to : Int) (h1 : n < to) :
    Calls Try.prog 13 #[.pointer (some ⟨b, 0, none⟩), .int .u32 to] w fun e w' => e = .returned (.bool true) ∧ Ctr w' b to t f v d ∧ One b w w' := by
  have c0 := h.c0
  have f0 : w.frozen? ⟨b, 0, none⟩ = false := h.frozen 0
  go_enter Try.func13, Try.ntmps13
  go_wp2
  refine wp_loop_rounds 1 ?_
  rw [rounds_succ]
  go_wp2_with (first
    | (go_at_call 21; refine (load32 _ _ _ c0).mono ?_; rintro e w' ⟨rfl, rfl⟩)
    | (go_at_call 22; refine (cas32 _ _ _ _ c0 f0).mono ?_; rintro e w' ⟨rfl, rfl⟩))
  go_ret
  exact ⟨rfl, h.set_ 0 _, (One.refl _ _).set _ _⟩

end

end Go.Proofs.Ytkpfekchcjmjeaa
