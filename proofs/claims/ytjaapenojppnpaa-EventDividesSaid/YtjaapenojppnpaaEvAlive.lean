/- The chapter's example: alive returns true and turns nothing that was there. -/
import Derived.Test.YtjaapenojppnpaaQueueHas
namespace Go.Proofs.Ytjaapenojppnpaa
open Go.RowKit

/-- A whole block of events reads as its list. -/
theorem rd_block {α : Type} (E : Elem α) {w : World} {g : Nat} {t : TypeId} {cs : Array Value} (h : Blk w g t cs) (l : List α) (hcs : cs.toList = E.cells l) : Rd E w (.slice (some ⟨g, 0, none⟩) l.length l.length) l := by
  refine ⟨_, _, rfl, Nat.le_refl _, fun _ => ⟨g, 0, rfl, fun i x hx j u hu => ?_⟩⟩
  rw [h.cell, Nat.zero_add, ← Array.getElem?_toList, hcs]
  exact E.cells_at hx hu

def aliveL : List Ev := [⟨2, 3, 0⟩, ⟨3, 5, 8⟩, ⟨1, 9, 0⟩, ⟨3, 5, 16⟩]

theorem aliveL_wf : ∀ x ∈ aliveL, x.wf := by
  intro x hx
  simp only [aliveL, List.mem_cons, List.not_mem_nil, or_false] at hx
  rcases hx with rfl | rfl | rfl | rfl <;> exact ⟨by decide, by decide, by decide⟩

theorem alive1 : ([] ++ aliveL.filter fun x => decide (1 ≤ x.k ∧ x.k ≤ 3)) = aliveL := by decide
theorem alive2 : squeeze (aliveL.filter fun x => false || decide (x.k ≠ 2)) = [⟨1, 9, 0⟩, ⟨3, 5, 16⟩] := by decide
theorem alive3 : (aliveL.filter fun x => !(false || decide (x.k ≠ 2))) = [⟨2, 3, 0⟩] := by decide

set_option maxHeartbeats 1600000 in
theorem alive_any (w : World) : Calls Try.prog 9 #[] w fun e w' => e = .returned (.bool true) ∧ New w w' := by
  go_enter Try.func9, Try.ntmps9
  go_wp2_with fail
  refine (qnew_any _).mono ?_
  rintro e w1 ⟨rfl, hq1, hn1⟩
  go_wp2_with fail
  have hb1 : Blk (w1.alloc (.cells #[.int .i64 2, .int .u32 3, .int .u8 0, .int .i64 3, .int .u32 5, .int .u8 8, .int .i64 1, .int .u32 9, .int .u8 0, .int .i64 3, .int .u32 5, .int .u8 16] 29)) w1.heap.size 29
    #[.int .i64 2, .int .u32 3, .int .u8 0, .int .i64 3, .int .u32 5, .int .u8 8, .int .i64 1, .int .u32 9, .int .u8 0, .int .i64 3, .int .u32 5, .int .u8 16] := Blk.new _ _ _
  refine (push_any (hq1.new ((New.refl _).alloc _)) _ aliveL (rd_block evE hb1 aliveL rfl) (by decide) (by decide) aliveL_wf).mono ?_
  rintro e w2 ⟨rfl, v2, hq2, hf2, _⟩
  rw [alive1] at hq2
  have hn2 : New w w2 := Fr.trans' (hn1.alloc _) hf2 fun i hi hs => by rcases hs with rfl | hs <;> first | omega | cases hs
  go_wp2_with fail
  refine (flush_any hq2 false (by decide)).mono ?_
  rintro e w3 ⟨o, v3, rfl, ho, hq3, ho3, _, _⟩
  rw [alive2] at ho
  rw [alive3] at hq3
  have hn3 : New w w3 := New.one hn2 ho3 (Nat.le_refl _)
  have hb3 : Blk (w3.alloc (.cells #[.int .i64 1, .int .u32 9, .int .u8 0, .int .i64 3, .int .u32 5, .int .u8 16] 29)) w3.heap.size 29 #[.int .i64 1, .int .u32 9, .int .u8 0, .int .i64 3, .int .u32 5, .int .u8 16] := Blk.new _ _ _
  go_wp2_with fail
  refine (equal_any _ _ [⟨1, 9, 0⟩, ⟨3, 5, 16⟩] [⟨1, 9, 0⟩, ⟨3, 5, 16⟩] _ (ho.rd.alloc _) (rd_block evE hb3 _ rfl) (by decide) (by decide)).mono ?_
  rintro e w4 ⟨rfl, hn4⟩
  have hq4 := (hq3.new ((New.refl _).alloc (.cells #[.int .i64 1, .int .u32 9, .int .u8 0, .int .i64 3, .int .u32 5, .int .u8 16] 29))).new hn4
  have hn04 : New w w4 := (hn3.alloc _).trans hn4
  rw [decide_eq_true (Eq.refl _)]
  go_wp2_with fail
  refine (len_any hq4).mono ?_
  rintro e w5 ⟨rfl, rfl⟩
  go_wp2_with fail
  refine (has_any hq4 3 (by decide)).mono ?_
  rw [show ([(⟨2, 3, 0⟩ : Ev)].any fun x => decide (x.k = 2 ∧ x.u = 3)) = true from by decide]
  rintro e w6 ⟨rfl, hn6⟩
  go_wp2
  go_ret
  exact ⟨rfl, hn04.trans hn6⟩

end Go.Proofs.Ytjaapenojppnpaa
