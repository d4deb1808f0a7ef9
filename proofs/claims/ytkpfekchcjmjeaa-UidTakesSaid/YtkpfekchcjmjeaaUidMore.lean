/- The counter of package uid on a nil receiver; the validity, determined once: package sync's Once walked over the library's own contracts of the mutex. -/
import Derived.Test.YtkpfekchcjmjeaaUid
import Derived.Conc.MuLone
import Derived.Defers
namespace Go.Proofs.Ytkpfekchcjmjeaa
open Go.RowKit Go.MuLone

section
variable (w : World)
set_option maxHeartbeats 400000 in
theorem take_nil : Calls Try.prog 10 #[.pointer none] w fun e w' => e = .returned (.tuple #[.int .u32 0, .int .i64 1]) ∧ w = w' := by
  go_enter Try.func10, Try.ntmps10
  go_wp2
  go_ret2
  exact ⟨rfl, rfl⟩
set_option maxHeartbeats 400000 in
theorem skip_nil (to : Int) : Calls Try.prog 13 #[.pointer none, .int .u32 to] w fun e w' => e = .returned (.bool false) ∧ w = w' := by
  go_enter Try.func13, Try.ntmps13
  go_wp2
  go_ret
  exact ⟨rfl, rfl⟩
set_option maxHeartbeats 400000 in
theorem next_nil : Calls Try.prog 14 #[.pointer none] w fun e w' => e = .returned (.int .u32 0) ∧ w = w' := by
  go_enter Try.func14, Try.ntmps14
  go_wp2
  go_ret
  exact ⟨rfl, rfl⟩
set_option maxHeartbeats 400000 in
theorem left_nil : Calls Try.prog 12 #[.pointer none] w fun e w' => e = .returned (.int .u32 0) ∧ w = w' := by
  go_enter Try.func12, Try.ntmps12
  go_wp2
  go_ret
  exact ⟨rfl, rfl⟩
set_option maxHeartbeats 400000 in
theorem taken_nil : Calls Try.prog 15 #[.pointer none] w fun e w' => e = .returned (.int .u64 0) ∧ w = w' := by
  go_enter Try.func15, Try.ntmps15
  go_wp2
  go_ret
  exact ⟨rfl, rfl⟩
set_option maxHeartbeats 400000 in
theorem validity_nil : Calls Try.prog 16 #[.pointer none] w fun e w' => e = .returned (.int .u32 0) ∧ New w w' := by
  go_enter Try.func16, Try.ntmps16
  go_wp2
  go_ret
  exact ⟨rfl, (New.refl _).alloc _⟩
end

/-- The numbers under which the dump holds the mutex's functions and types. -/
abbrev mu : Go.Conc.Locks.MuLink := { lock := 34, unlock := 35, ilock := 37, iunlock := 38, lockSlow := 44, unlockSlow := 47, disable := 40, enable := 42, acquire := 43, relMerge := 45, cas32 := 41, add32 := 46, tMutex := 60, tIMutex := 58, tPMutex := 80, tPIMutex := 82, tPI32 := 84, tUP := 86, tNoCopy := 55, tU32 := 22 }
theorem muLib : Go.Conc.Locks.MuLib Try.prog mu :=
  ⟨Try.func34, Try.func35, Try.func37, Try.func38, Try.func40, Try.func42, Try.func43, Try.func45, Try.func41, Try.func46, Try.underlying58, Try.runUnderlying58, Try.sizeOf58, Try.isAgg58, Try.zeroValue58, Try.underlying60, Try.runUnderlying60, Try.sizeOf60, Try.isAgg60, Try.zeroValue60, Try.underlying80, Try.runUnderlying80, Try.sizeOf80, Try.isAgg80, Try.zeroValue80, Try.underlying82, Try.runUnderlying82, Try.sizeOf82, Try.isAgg82, Try.zeroValue82, Try.underlying84, Try.runUnderlying84, Try.sizeOf84, Try.isAgg84, Try.zeroValue84, Try.underlying86, Try.runUnderlying86, Try.sizeOf86, Try.isAgg86, Try.zeroValue86, Try.underlying55, Try.runUnderlying55, Try.sizeOf55, Try.isAgg55, Try.zeroValue55, Try.underlying21, Try.runUnderlying21, Try.sizeOf21, Try.isAgg21, Try.zeroValue21, (by kernel_rfl)⟩

theorem hnot (x : Bool) (w : World) : (Op.unary .not (.bool x)).run Try.prog w = .ok (.bool (!x)) w := rfl

set_option maxHeartbeats 400000 in
theorem bool_load (a : Addr) (x : Int) (w : World) (hc : w.cell? a = some (.int .u32 x)) :
    Calls Try.prog 32 #[.pointer (some a)] w fun e w' => e = .returned (.bool (x != 0)) ∧ w = w' := by
  have hs := run_call_load (P := Try.prog) Try.func28 (by kernel_rfl) (by kernel_rfl) (by kernel_rfl) .u32 (by kernel_rfl) hc
  go_enter Try.func32, Try.ntmps32
  go_wp2
  go_ret
  exact ⟨rfl, rfl⟩

set_option maxHeartbeats 400000 in
theorem b32_true (w : World) : Calls Try.prog 39 #[.bool true] w fun e w' => e = .returned (.int .u32 1) ∧ w = w' := by
  go_enter Try.func39, Try.ntmps39
  go_wp2
  go_ret
  exact ⟨rfl, rfl⟩

set_option maxHeartbeats 800000 in
/-- (*atomic.Bool).Store(true), entered as a deferred call. -/
theorem bool_store_deferred (a : Addr) (x : Value) (u : FrameMode) (w : World) (hc : w.cell? a = some x) (hz : w.frozen? a = false) :
    CallsD Try.prog 36 #[.pointer (some a), .bool true] u w fun e u' w' => u' = u ∧ (e = .returned (.tuple #[]) ∧ w' = w.drew.setCell a (.int .u32 1)) := by
  have hc' : w.drew.cell? a = some x := by go_simp
  have hz' : w.drew.frozen? a = false := by go_simp
  have hst := run_call_store (P := Try.prog) Try.func27 (by kernel_rfl) (by kernel_rfl) (by kernel_rfl) (by kernel_rfl) (k := .u32) (y := 1) hc' hz'
  go_enter_d Try.func36, Try.ntmps36
  go_wp2
  go_region_calls
  all_goals (go_end0; exact ⟨rfl, rfl⟩)

set_option maxHeartbeats 800000 in
/-- The function that Validity hands to Once.Do. -/
theorem vfn_any (pl b : Nat) (w : World) (f : Int) (v : Value) (hp : w.cell? ⟨pl, 0, none⟩ = some (.pointer (some ⟨b, 0, none⟩)))
    (c2 : w.cell? ⟨b, 2, none⟩ = some (.int .u32 f)) (c3 : w.cell? ⟨b, 3, none⟩ = some v) (f3 : w.frozen? ⟨b, 3, none⟩ = false) :
    Calls Try.prog 26 #[.pointer (some ⟨pl, 0, none⟩)] w fun e w' => e = .returned (.tuple #[]) ∧ w.drew.setCell ⟨b, 3, none⟩ (.int .u32 f) = w' := by
  go_enter Try.func26, Try.ntmps26
  go_wp2_with fail
  refine wp_tail 7 (by kernel_rfl) (by kernel_rfl) ?_
  simp only [List.take_succ_cons, List.take_zero, List.drop_succ_cons, List.drop_zero]
  repeat still_step
  refine wpStill_nil ?_
  go_wp2
  go_end0
  exact ⟨rfl, rfl⟩

set_option maxRecDepth 100000 in
set_option maxHeartbeats 1600000 in
theorem slow_first (pl b : Nat) (w : World) (n t f v : Int) (hp : w.cell? ⟨pl, 0, none⟩ = some (.pointer (some ⟨b, 0, none⟩))) (h : Ctr w b n t f v 0) :
    Calls Try.prog 33 #[.pointer (some ⟨b, 4, none⟩), .func (.func 26) #[] #[.pointer (some ⟨pl, 0, none⟩)]] w fun e w' => e = .returned (.tuple #[]) ∧ Ctr w' b n t f f 1 ∧ One b w w' := by
  have f5 : w.frozen? ⟨b, 5, none⟩ = false := h.frozen 5
  have c5 := h.c5
  have h1 : Blk (w.setCell ⟨b, 5, none⟩ (.int .i32 1)) b 64 #[.int .u32 n, .int .u64 t, .int .u32 f, .int .u32 v, .int .u32 0, .int .i32 1, .int .u32 0] := h.set_ 5 _
  have d4 : (w.setCell ⟨b, 5, none⟩ (.int .i32 1)).cell? ⟨b, 4, none⟩ = some (.int .u32 0) := h1.cell 4
  have hnot := hnot
  go_enter_defers Try.func33, Try.ntmps33
  go_wp2_with (first
    | (go_at_call 34; refine (lock_free muLib ⟨b, 5, none⟩ _ c5 f5).mono ?_; rintro e w' ⟨rfl, rfl⟩)
    | (go_at_call 32; refine (bool_load _ _ _ d4).mono ?_; rintro e w' ⟨rfl, rfl⟩))
  refine (vfn_any pl b _ f (.int .u32 v) ((World.cell?_setCell_other _ _ _ _ (by simp)).trans hp) (h1.cell 2) (h1.cell 3) (h1.frozen 3)).mono ?_
  rintro e w' ⟨rfl, rfl⟩
  have h2 : Blk ((w.setCell ⟨b, 5, none⟩ (.int .i32 1)).drew.setCell ⟨b, 3, none⟩ (.int .u32 f)) b 64 #[.int .u32 n, .int .u64 t, .int .u32 f, .int .u32 f, .int .u32 0, .int .i32 1, .int .u32 0] := h1.drew.set_ 3 _
  have h3 : Blk (((w.setCell ⟨b, 5, none⟩ (.int .i32 1)).drew.setCell ⟨b, 3, none⟩ (.int .u32 f)).drew.setCell ⟨b, 4, none⟩ (.int .u32 1)) b 64 #[.int .u32 n, .int .u64 t, .int .u32 f, .int .u32 f, .int .u32 1, .int .i32 1, .int .u32 0] := h2.drew.set_ 4 _
  have h4 : Blk ((((w.setCell ⟨b, 5, none⟩ (.int .i32 1)).drew.setCell ⟨b, 3, none⟩ (.int .u32 f)).drew.setCell ⟨b, 4, none⟩ (.int .u32 1)).setCell ⟨b, 5, none⟩ (.int .i32 0)) b 64 #[.int .u32 n, .int .u64 t, .int .u32 f, .int .u32 f, .int .u32 1, .int .i32 0, .int .u32 0] := h3.set_ 5 _
  go_wp2
  refine leaves_cons (f := 36) (args := #[.pointer (some ⟨b, 4, none⟩), .bool true]) (by simp) (by simp [go_sem]) ?_
  refine (bool_store_deferred ⟨b, 4, none⟩ (.int .u32 0) .returning _ (h2.cell 4) (h2.frozen 4)).mono ?_
  rintro e u' w'' ⟨rfl, rfl, rfl⟩
  refine leaves_cons (f := 35) (args := #[.pointer (some ⟨b, 5, none⟩)]) (by simp [settle]) (by simp [go_sem]) ?_
  refine (unlock_deferred muLib ⟨b, 5, none⟩ _ _ (h3.cell 5) (h3.frozen 5)).mono ?_
  rintro e u' w'' ⟨rfl, rfl, rfl⟩
  exact ⟨_, results_none rfl _ _ _, rfl, h4, One.set (One.set (Fr.drew (One.set (Fr.drew (One.set (One.refl _ _) _ _)) _ _)) _ _) _ _⟩

set_option maxHeartbeats 800000 in
theorem do_first (pl b : Nat) (w : World) (n t f v : Int) (hp : w.cell? ⟨pl, 0, none⟩ = some (.pointer (some ⟨b, 0, none⟩))) (h : Ctr w b n t f v 0) :
    Calls Try.prog 25 #[.pointer (some ⟨b, 4, none⟩), .func (.func 26) #[] #[.pointer (some ⟨pl, 0, none⟩)]] w fun e w' => e = .returned (.tuple #[]) ∧ Ctr w' b n t f f 1 ∧ One b w w' := by
  have c4 := h.c4
  have hnot := hnot
  go_enter Try.func25, Try.ntmps25
  go_wp2_with (first
    | (go_at_call 32; refine (bool_load _ _ _ c4).mono ?_; rintro e w' ⟨rfl, rfl⟩)
    | (go_at_call 33; refine (slow_first pl b _ n t f v hp h).mono ?_; rintro e w' ⟨rfl, hc, ho⟩))
  go_end0
  exact ⟨rfl, hc, ho⟩

set_option maxHeartbeats 800000 in
theorem do_done (b : Nat) (w : World) (n t f v : Int) (fv : Value) (h : Ctr w b n t f v 1) :
    Calls Try.prog 25 #[.pointer (some ⟨b, 4, none⟩), fv] w fun e w' => e = .returned (.tuple #[]) ∧ w = w' := by
  have c4 := h.c4
  have hnot := hnot
  go_enter Try.func25, Try.ntmps25
  go_wp2_with (go_at_call 32; refine (bool_load _ _ _ c4).mono ?_; rintro e w' ⟨rfl, rfl⟩)
  go_end0
  exact ⟨rfl, rfl⟩

set_option maxHeartbeats 800000 in
theorem validity_first (b : Nat) (w : World) (n t f v : Int) (h : Ctr w b n t f v 0) :
    Calls Try.prog 16 #[.pointer (some ⟨b, 0, none⟩)] w fun e w' => e = .returned (.int .u32 f) ∧ Ctr w' b n t f f 1 ∧ One b w w' := by
  have hmf : ∀ (fn : Fn) (first cap : Array Value) (w : World), (Instr.makeFunc fn first cap).run Try.prog w = .ok (.func fn first cap) w := fun _ _ _ _ => rfl
  have hb := Blk.lt h
  go_enter Try.func16, Try.ntmps16
  go_wp2_with (go_at_call 25; refine (do_first w.heap.size b _ n t f v (by simp) (Blk.alloc h _)).mono ?_; rintro e w1 ⟨rfl, hc, ho⟩; have hp1 : w1.cell? ⟨w.heap.size, 0, none⟩ = some (.pointer (some ⟨b, 0, none⟩)) := (One.blk ho (Blk.new w _ _) (by omega)).cell 0; have c3 := hc.c3)
  go_ret
  exact ⟨rfl, hc, (Fr.trans ((One.refl _ _).alloc _) ho)⟩

set_option maxHeartbeats 800000 in
theorem validity_done (b : Nat) (w : World) (n t f v : Int) (h : Ctr w b n t f v 1) :
    Calls Try.prog 16 #[.pointer (some ⟨b, 0, none⟩)] w fun e w' => e = .returned (.int .u32 v) ∧ Ctr w' b n t f v 1 ∧ New w w' := by
  have hmf : ∀ (fn : Fn) (first cap : Array Value) (w : World), (Instr.makeFunc fn first cap).run Try.prog w = .ok (.func fn first cap) w := fun _ _ _ _ => rfl
  have c3 := h.c3
  have hb := Blk.lt h
  go_enter Try.func16, Try.ntmps16
  go_wp2_with (go_at_call 25; refine (do_done b _ n t f v _ (Blk.alloc h _)).mono ?_; rintro e w1 ⟨rfl, rfl⟩)
  go_ret
  exact ⟨rfl, Blk.alloc h _, (New.refl _).alloc _⟩

end Go.Proofs.Ytkpfekchcjmjeaa
