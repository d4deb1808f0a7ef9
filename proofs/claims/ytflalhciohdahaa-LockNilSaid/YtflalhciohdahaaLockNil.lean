/- LockNil: the methods of a nil table; the walk. -/
import Derived.Test.YtflalhciohdahaaLockAlive
namespace Go.Proofs.Ytflalhciohdahaa
open Go.RowKit

set_option maxHeartbeats 400000 in
theorem nil_acquire (o k : Int) (w : World) : Calls Try.prog 13 #[.pointer none, .int .i64 o, .int .i64 k] w fun e w' => e = .returned (.int .i64 1) ∧ New w w' := by
  go_enter Try.func13, Try.ntmps13
  go_wp2
  go_ret
  exact ⟨rfl, (New.refl _).alloc _⟩
set_option maxHeartbeats 400000 in
theorem nil_held (o : Int) (w : World) : Calls Try.prog 23 #[.pointer none, .int .i64 o] w fun e w' => e = .returned (.slice none 0 0) ∧ New w w' := by
  go_enter Try.func23, Try.ntmps23
  go_wp2
  go_ret
  exact ⟨rfl, ((New.refl _).alloc _).alloc _⟩
set_option maxHeartbeats 400000 in
theorem nil_release (o : Int) (w : World) : Calls Try.prog 18 #[.pointer none, .int .i64 o] w fun e w' => e = .returned (.int .i64 0) ∧ New w w' := by
  go_enter Try.func18, Try.ntmps18
  go_wp2_with (go_at_call 23; refine (nil_held _ _).mono ?_; rintro e w1 ⟨rfl, hn⟩)
  refine wp_loop_rounds 1 ?_
  rw [rounds_succ]
  go_wp2
  go_ret
  exact ⟨rfl, hn⟩
set_option maxHeartbeats 400000 in
theorem nil_owner (k : Int) (w : World) : Calls Try.prog 20 #[.pointer none, .int .i64 k] w fun e w' => e = .returned (.tuple #[.int .i64 0, .bool false]) ∧ w = w' := by
  go_enter Try.func20, Try.ntmps20
  go_wp2
  go_ret2
  exact ⟨rfl, rfl⟩
set_option maxHeartbeats 400000 in
theorem nil_free (w : World) : Calls Try.prog 12 #[.pointer none] w fun e w' => e = .returned (.bool false) ∧ w = w' := by
  go_enter Try.func12, Try.ntmps12
  go_wp2
  go_ret
  exact ⟨rfl, rfl⟩
set_option maxHeartbeats 400000 in
theorem nil_blocked (o : Int) (v : Value) (w : World) : Calls Try.prog 16 #[.pointer none, .int .i64 o, v] w fun e w' => e = .returned (.bool false) ∧ New w w' := by
  go_enter Try.func16, Try.ntmps16
  go_wp2
  go_ret
  exact ⟨rfl, ((New.refl _).alloc _).alloc _⟩
set_option maxHeartbeats 400000 in
theorem nil_acquired (w : World) : Calls Try.prog 26 #[.pointer none] w fun e w' => e = .returned (.int .i64 0) ∧ w = w' := by
  go_enter Try.func26, Try.ntmps26
  go_wp2
  go_ret
  exact ⟨rfl, rfl⟩
set_option maxHeartbeats 400000 in
theorem nil_len (w : World) : Calls Try.prog 11 #[.pointer none] w fun e w' => e = .returned (.int .i64 0) ∧ w = w' := by
  go_enter Try.func11, Try.ntmps11
  go_wp2
  go_ret
  exact ⟨rfl, rfl⟩

set_option maxRecDepth 100000 in
set_option maxHeartbeats 3200000 in
theorem nil_any (o l : Int) (w : World) (_h0 : -9223372036854775808 ≤ o) (_h1 : o ≤ 9223372036854775807) (_h2 : -9223372036854775808 ≤ l) (_h3 : l ≤ 9223372036854775807) : Calls Try.prog 7 #[.int .i64 o, .int .i64 l] w fun e w' => e = .returned (.bool true) ∧ New w w' := by
  go_enter Try.func7, Try.ntmps7
  go_wp2_with fail
  refine (lnew_any 3 (by omega) (by omega) _).mono ?_
  rintro e w1 ⟨b, bm, rfl, ht1, hb, hm, hn1⟩
  have ht1' : Tab w1 b bm [-1, -1, -1] 0 := ht1
  clear ht1
  go_wp2_with fail
  refine (lnew_any 3 (by omega) (by omega) _).mono ?_
  rintro e w2 ⟨b2, bm2, rfl, hu2, hb2, hm2, hn2⟩
  have hu2' : Tab w2 b2 bm2 [-1, -1, -1] 0 := hu2
  have ht2 := ht1'.new hn2
  have hs1 := hn1.size
  have hlt1 := ht1'.lt
  have hltm1 := ht1'.ltm
  have hn12 := hn1.trans hn2
  clear hu2 ht1'
  go_wp2_with fail
  refine (lacquire_any ht2 (by omega) 1 1 (by decide) (by decide)).mono ?_
  rw [show acqP [-1, -1, -1] 1 1 = 0 by decide, show acqO [-1, -1, -1] 1 1 = [-1, 1, -1] by decide, show acqN [-1, -1, -1] 1 1 = 1 by decide]
  rintro e w3 ⟨rfl, ht3, hf3⟩
  have hn3 := TFr.new hn12 hf3 hb hm
  have hu3 := hu2'.fr hf3 (fun hs => by rcases hs with hs | hs <;> omega) (fun hs => by rcases hs with hs | hs <;> omega)
  clear ht2 hu2'
  go_wp2_with fail
  refine (nil_owner _ _).mono ?_
  rintro e w4 ⟨rfl, rfl⟩
  go_wp2_with fail
  refine (alive_any _).mono ?_
  rintro e w4 ⟨rfl, hn4⟩
  go_wp2_with fail
  refine (nil_acquire _ _ _).mono ?_
  rintro e w5 ⟨rfl, hn5⟩
  go_wp2_with fail
  refine (nil_release _ _).mono ?_
  rintro e w6 ⟨rfl, hn6⟩
  go_wp2_with fail
  refine (nil_held _ _).mono ?_
  rintro e w7 ⟨rfl, hn7⟩
  go_wp2_with fail
  refine (nil_free _).mono ?_
  rintro e w8 ⟨rfl, rfl⟩
  have hn37 := ((hn4.trans hn5).trans hn6).trans hn7
  go_wp2_with fail
  refine (nil_blocked _ _ _).mono ?_
  rintro e w8 ⟨rfl, hn8⟩
  have hn38 := (hn37.alloc (.cells #[.int .i64 l] 3)).trans hn8
  have hu8 := hu3.new hn38
  have ht8 := ht3.new hn38
  go_wp2_with fail
  refine (nil_acquired _).mono ?_
  rintro e w9 ⟨rfl, rfl⟩
  go_wp2_with fail
  refine (nil_len _).mono ?_
  rintro e w9 ⟨rfl, rfl⟩
  go_wp2_with fail
  refine (lfree_any hu8).mono ?_
  rw [show freeP [-1, -1, -1] = true by decide]
  rintro e w9 ⟨rfl, rfl⟩
  go_wp2_with fail
  refine (lfree_any ht8).mono ?_
  rw [show freeP [-1, 1, -1] = false by decide]
  rintro e w9 ⟨rfl, rfl⟩
  go_wp2
  go_ret
  exact ⟨rfl, hn3.trans hn38⟩

end Go.Proofs.Ytflalhciohdahaa
