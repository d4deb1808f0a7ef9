/- The chapter's example: alive returns true and turns nothing that was there. -/
import Derived.Test.YtmhhmenhfocfjaaIdxQ
namespace Go.Proofs.Ytmhhmenhfocfjaa
open Go.RowKit

theorem IFr.new {x : Nat} {u : Value} {a w w' : World} (h : New a w) (hf : IFr x u w w') (hx : a.heap.size ≤ x) (hu : ∀ b, u.ownBlock = some b → a.heap.size ≤ b) : New a w' :=
  New.two h hf fun i hi => by rcases hi with rfl | hi; exact hx; exact hu i hi

theorem IdxU.ge {base x : Nat} {w : World} {u : Value} {l : List Int} (h : IdxU base w x u l) : ∀ b, u.ownBlock = some b → base ≤ b := fun _ hb => (h.2.1.block hb).1

theorem idx935 : idxOf [9, 3, 5] = [3, 5, 9] :=
  (idxOf_asc [9, 3, 5] (by decide)).ext ⟨by unfold Asc; decide, fun x => by simp; omega⟩

set_option maxHeartbeats 3200000 in
theorem alive_any (w : World) : Calls Try.prog 9 #[] w fun e w' => e = .returned (.bool true) ∧ New w w' := by
  have hn0 : New w (w.alloc (.cells #[.int .u32 9, .int .u32 3, .int .u32 5] 28)) := (New.refl w).alloc _
  have hrd : Rd (intE .u32) (w.alloc (.cells #[.int .u32 9, .int .u32 3, .int .u32 5] 28)) (.slice (some ⟨w.heap.size, 0, none⟩) 3 3) [9, 3, 5] := rd_block (intE .u32) (Blk.new w 28 #[.int .u32 9, .int .u32 3, .int .u32 5]) [9, 3, 5] rfl
  have HN := Lib.hid (qnew hrd (by decide))
  clear hrd
  rw [idx935] at HN
  have hasc : Asc [3, 5, 9] := by unfold Asc; decide
  have hasc2 : Asc [3, 9] := by unfold Asc; decide
  go_enter Try.func9, Try.ntmps9
  go_wp2_with fail
  refine HN.out.mono ?_
  rintro e w1 ⟨x, u, rfl, hx, h1, hn1⟩
  have hn1' := hn0.trans hn1
  have hx' : w.heap.size ≤ x := Nat.le_trans (by simp) hx
  go_wp2_with fail
  refine (qpos h1 hasc (by decide) 5).mono ?_
  rw [show placeOf [3, 5, 9] 5 = 2 by decide]
  rintro e w2 ⟨rfl, hn2⟩
  have h2 := h1.new hn2
  go_wp2_with fail
  refine (qrm h2 hasc (by decide) 5).mono ?_
  rw [show placeOf [3, 5, 9] 5 = 2 by decide, show ([3, 5, 9] : List Int).filter (fun y => y != 5) = [3, 9] by decide]
  rintro e w3 ⟨u3, rfl, h3, hf3, _⟩
  have hn3 : New w w3 := IFr.new (hn1'.trans hn2) hf3 hx' fun b hb => Nat.le_trans (by simp) (h2.ge b hb)
  go_wp2_with fail
  refine (qpos h3 hasc2 (by decide) 9).mono ?_
  rw [show placeOf [3, 9] 9 = 2 by decide]
  rintro e w4 ⟨rfl, hn4⟩
  have h4 := h3.new hn4
  go_wp2_with fail
  refine (ilen_any h4.at_).mono ?_
  rintro e w5 ⟨rfl, rfl⟩
  go_wp2
  go_ret
  exact ⟨rfl, hn3.trans hn4⟩

end Go.Proofs.Ytmhhmenhfocfjaa
