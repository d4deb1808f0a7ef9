/- split divides a list of events into those that a function accepts and the others, both in new memory. -/
import Derived.Test.YtjaapenojppnpaaEv
import Derived.Shelf.Abstract
namespace Go.Proofs.Ytjaapenojppnpaa
open Go.RowKit

/-- Function g, over what it has captured, is the predicate p, in every world in which all that lay in w lies unturned. -/
def IsPred (w : World) (g : Nat) (lb : Array Value) (p : Ev → Bool) : Prop :=
  ∀ (W : World) (x : Ev), New w W → Calls Try.prog g (#[x.val] ++ lb) W fun e w' => e = .returned (.bool (p x)) ∧ New W w'

theorem take_snoc {α : Type} {l : List α} {k : Nat} {x : α} (h : l[k]? = some x) : l.take (k + 1) = l.take k ++ [x] := by
  have hk : k < l.length := (List.getElem?_eq_some_iff.1 h).1
  rw [List.take_succ_eq_append_getElem hk, (List.getElem?_eq_some_iff.1 h).2]

set_option maxHeartbeats 1600000 in
theorem split_any (g : Nat) (lb : Array Value) (p : Ev → Bool) (hE : ∀ args w, (callFunc g args).run Try.prog w = .ok (.enter g args) w) (v : Value) (l : List Ev) (w : World) (hp : IsPred w g lb p) (hv : Rd evE w v l) (hl : l.length ≤ 100000) :
    Calls Try.prog 30 #[v, .func (.func g) #[] lb] w fun e w' => ∃ y n, e = .returned (.tuple #[y, n]) ∧ Own evE 29 w.heap.size w' y (l.filter p) ∧ Own evE 29 w.heap.size w' n (l.filter fun x => !p x) ∧ New w w' := by
  obtain ⟨A, c, rfl, hc, hcells⟩ := hv
  have HC := Lib.hid hcells
  clear hcells
  obtain ⟨i0, hi, hz0, hz1, hz2⟩ := info_parts ev_info
  go_enter Try.func30, Try.ntmps30
  go_wp2
  go_loopw [4, 5, 10] (fun vy vn vi wr => ∃ k : Nat, k ≤ l.length ∧ vi = .int .i64 k ∧ Own evE 29 w.heap.size wr vy ((l.take k).filter p) ∧ Own evE 29 w.heap.size wr vn ((l.take k).filter fun x => !p x) ∧
      (vy.ownBlock = none ∨ vy.ownBlock ≠ vn.ownBlock) ∧ New w wr) (fun _ _ vi _ => l.length - (intOf vi).toNat)
  case atStart => exact ⟨0, Nat.zero_le _, rfl, Own.nil _ _ _ _, Own.nil _ _ _ _, .inl rfl, New.refl _⟩
  case round =>
    obtain ⟨k, hk, rfl, hy, hn, hyn, hnew⟩ := hrel
    by_cases hkl : k < l.length
    · obtain ⟨x, hx⟩ : ∃ x, l[k]? = some x := ⟨_, List.getElem?_eq_getElem hkl⟩
      obtain ⟨b, off, rfl, hcell⟩ := HC.out (by rintro rfl; simp at hkl)
      obtain ⟨xk, xu, xf⟩ := x
      have c0 : wr.cell? ⟨b, off + k * 3, none⟩ = some (.int .i64 xk) := Fr.cell hnew (hcell k _ hx 0 _ rfl) id
      have c1 : wr.cell? ⟨b, off + k * 3 + 1, none⟩ = some (.int .u32 xu) := Fr.cell hnew (hcell k _ hx 1 _ rfl) id
      have c2 : wr.cell? ⟨b, off + k * 3 + 2, none⟩ = some (.int .u8 xf) := Fr.cell hnew (hcell k _ hx 2 _ rfl) id
      have HX := Lib.hid hx
      clear hcell hx
      have hcall := hp _ ⟨xk, xu, xf⟩ (hnew.alloc (.cells #[.int .i64 xk, .int .u32 xu, .int .u8 xf] 29))
      have hb0 : Blk (wr.alloc (.cells #[.int .i64 xk, .int .u32 xu, .int .u8 xf] 29)) wr.heap.size 29 #[.int .i64 xk, .int .u32 xu, .int .u8 xf] := Blk.new _ _ _
      have hsz := hnew.size
      have htl : (l.take k).length ≤ k := List.length_take_le _ _
      have hfy : ((l.take k).filter p).length ≤ k := Nat.le_trans (List.length_filter_le _ _) htl
      have hfn : ((l.take k).filter fun x => !p x).length ≤ k := Nat.le_trans (List.length_filter_le _ _) htl
      cases hpx : p ⟨xk, xu, xf⟩
      all_goals
        rw [hpx] at hcall
        have HP := Lib.hid hpx
        have HCALL := Lib.hid hcall
        clear hpx hcall
        go_wp2_with fail
        refine HCALL.out.mono ?_
        rintro e w1 ⟨rfl, hn1⟩
        have hs1 := hn1.size
        rw [World.size_alloc] at hs1
        have hb1 := hn1.blk hb0
        have d0 : w1.cell? ⟨wr.heap.size, 0, none⟩ = some (.int .i64 xk) := hb1.cell 0
        have d1 : w1.cell? ⟨wr.heap.size, 1, none⟩ = some (.int .u32 xu) := hb1.cell 1
        have d2 : w1.cell? ⟨wr.heap.size, 2, none⟩ = some (.int .u8 xf) := hb1.cell 2
        have hy1 := (hy.alloc (.cells #[.int .i64 xk, .int .u32 xu, .int .u8 xf] 29)).new hn1
        have hno1 := (hn.alloc (.cells #[.int .i64 xk, .int .u32 xu, .int .u8 xf] 29)).new hn1
        have hnew1 : New w w1 := (hnew.alloc _).trans hn1
        clear c0 c1 c2 hb0 hy hn hnew HCALL hn1 hb1
      · go_wp2_with (at_builtin; refine wpList_push (E := evE) rfl _ _ _ rfl Try.underlying22 hi hz0 hz1 hz2 rfl (hno1.alloc _) rfl ⟨xk, xu, xf⟩ w1.heap.size (Blk.new _ _ _) 1 rfl (by unfold maxLen; omega) (by omega) (by simp; omega) ?_; intro v2 w2 hv2 hf2 hl2)
        have hap := hy1.alloc (.cells #[.int .i64 xk, .int .u32 xu, .int .u8 xf] 29) |>.apart (hno1.alloc _) hyn hf2 hl2
        have hnew2 := New.append (hnew1.alloc _) (hno1.alloc _) hf2
        have et := take_snoc HX.out
        go_roundw
        case rel =>
          refine ⟨k + 1, by omega, by go_num, ?_, ?_, hap.2, hnew2⟩
          · rw [et, List.filter_append]
            simpa [HP.out] using hap.1
          · rw [et, List.filter_append]
            simpa [HP.out] using hv2
        case measure => simp [intOf]; omega
      · go_wp2_with (at_builtin; refine wpList_push (E := evE) rfl _ _ _ rfl Try.underlying22 hi hz0 hz1 hz2 rfl (hy1.alloc _) rfl ⟨xk, xu, xf⟩ w1.heap.size (Blk.new _ _ _) 1 rfl (by unfold maxLen; omega) (by omega) (by simp; omega) ?_; intro v2 w2 hv2 hf2 hl2)
        have hap := hno1.alloc (.cells #[.int .i64 xk, .int .u32 xu, .int .u8 xf] 29) |>.apart (hy1.alloc _) (apart_symm hyn) hf2 hl2
        have hnew2 := New.append (hnew1.alloc _) (hy1.alloc _) hf2
        have et := take_snoc HX.out
        go_roundw
        case rel =>
          refine ⟨k + 1, by omega, by go_num, ?_, ?_, apart_symm hap.2, hnew2⟩
          · rw [et, List.filter_append]
            simpa [HP.out] using hv2
          · rw [et, List.filter_append]
            simpa [HP.out] using hap.1
        case measure => simp [intOf]; omega
    · go_wp2
      go_ret2
      have e1 : l.take k = l := List.take_of_length_le (by omega)
      rw [e1] at hy hn
      exact ⟨_, _, rfl, hy, hn, hnew⟩

end Go.Proofs.Ytjaapenojppnpaa
