/- The reference of chapter 13: Same. -/
import Derived.Test.YtjnaihhkbbeaoaaRefM3
import Derived.Laws.BytesArg
namespace Go.Proofs.Ytjnaihhkbbeaoaa
open Go.RowKit

theorem conv_rd {w : World} {v : Value} {l : List Int} (h : Rd (intE .u8) w v l) : (convert 32 9 v).run Try.prog w = .ok (.string (strOfNums l)) w := by
  obtain ⟨A, c, rfl, _, hc⟩ := h.ints
  cases A with
  | none =>
    have hl : l = [] := by
      cases l with
      | nil => rfl
      | cons x l => obtain ⟨b, off, h, _⟩ := hc (by simp); cases h
    subst hl
    exact run_convert_bytes_nil w 32 5 Try.underlying32 Try.underlying5 _ _ 9 Try.underlying9
  | some a =>
    by_cases hne : l = []
    · subst hne
      rw [run_convert_bytes_string w 32 9 5 _ _ _ Try.underlying32 Try.underlying5 Try.underlying9, show ([] : List Int).length = 0 from rfl, run_bytesToString (P := Try.prog) w a 0 c [] rfl]
      rfl
    · obtain ⟨b, off, he, hcell⟩ := hc hne
      cases he
      refine run_convert_bytes_arg w 32 5 Try.underlying32 Try.underlying5 b off _ _ l rfl (fun i hi => ?_) 9 Try.underlying9
      exact hcell i _ (by rw [List.getD_eq_getElem?_getD, List.getElem?_eq_getElem hi]; rfl)

set_option maxRecDepth 100000 in
set_option maxHeartbeats 3200000 in
/-- Two messages that are the same. -/
theorem rsame_any (x y : MB) (w : World) (hx : Rd (intE .u8) w x.bv x.m.body) (hy : Rd (intE .u8) w y.bv y.m.body) (he : x.m = y.m) :
    Calls Try.prog 17 #[x.val, y.val] w fun e w' => e = .returned (.bool true) ∧ New w w' := by
  obtain ⟨xm, xA, xn, xc⟩ := x
  obtain ⟨⟨uid, fl, body⟩, A, n, c⟩ := y
  dsimp only at he
  subst he
  simp only [MB.bv, MB.val] at hx hy ⊢
  obtain ⟨wq, hwq⟩ : ∃ wq, wq = (w.alloc (.cells #[.int .u32 uid, .int .u8 fl, .slice xA xn xc] 34)).alloc (.cells #[.int .u32 uid, .int .u8 fl, .slice A n c] 34) := ⟨_, rfl⟩
  have hn1 : New w wq := by rw [hwq]; exact ((New.refl w).alloc _).alloc _
  have k1 := conv_rd (hx.new hn1)
  have k2 := conv_rd (hy.new hn1)
  generalize strOfNums body = s at *
  rw [hwq] at k1 k2 hn1
  clear hx hy hwq
  go_enter Try.func17, Try.ntmps17
  go_wp2
  go_ret
  first | exact ⟨rfl, hn1⟩ | exact ⟨by simp, hn1⟩

end Go.Proofs.Ytjnaihhkbbeaoaa
