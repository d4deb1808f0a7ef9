/- The library's iterator slices.Values at []uint32: for every loop body that keeps what lay below n₀. -/
import Derived.RangeFuncNested
import Derived.RangeFuncBound
import Derived.RangeFuncCalls
import Derived.RangeFuncLeaves
import Derived.Shelf.Abstract
import Derived.Shelf.RegionOpen
import Derived.WalkKit
import Derived.OwnWalkIn
import Derived.TacticsInMore
import Derived.LoopNIn
import Derived.LoopIn
import Derived.Test.YtmhhmenhfocfjaaMore
import Derived.Test.YtmhhmenhfocfjaaInts
namespace Go.Proofs.Ytmhhmenhfocfjaa
open Go.RowKit Go.Shelf Go.Proofs
attribute [local go_sem] Oper.semAt_some

/-- Slice sv reads as zs, out of a block below n₀; or there are none. -/
def RdBelow (n₀ : Nat) (W : World) (sv : Value) (zs : List Int) : Prop :=
  (zs = [] ∧ ∃ A c, sv = .slice A 0 c) ∨ ∃ b off cap, sv = .slice (some ⟨b, off, none⟩) zs.length cap ∧ b < n₀ ∧ ∀ j, j < zs.length → W.cell? ⟨b, off + j, none⟩ = some (.int .u32 (zs[j]?.getD 0))
theorem RdBelow.below {n₀ : Nat} {A B : World} (h : Below n₀ A B) {sv : Value} {zs : List Int} : RdBelow n₀ A sv zs → RdBelow n₀ B sv zs
  | .inl e => .inl e
  | .inr ⟨b, off, cap, e, hb, hc⟩ => .inr ⟨b, off, cap, e, hb, fun j hj => (h.cell (p := ⟨b, off + j, none⟩) hb).trans (hc j hj)⟩

theorem RdBelow.of {w : World} {v : Value} {l : List Int} {n₀ : Nat} (h : Rd (intE .u32) w v l) (hn : l ≠ [] → ∀ b, v.ownBlock = some b → b < n₀) : RdBelow n₀ w v l := by
  obtain ⟨A, c, rfl, _, hcells⟩ := h.ints
  by_cases hl : l = []
  · subst hl
    exact .inl ⟨rfl, A, c, rfl⟩
  · obtain ⟨b, off, rfl, hc⟩ := hcells hl
    exact .inr ⟨_, _, _, rfl, hn hl _ rfl, fun j hj => hc j _ (by rw [List.getElem?_eq_getElem hj]; rfl)⟩

theorem take_getD {zs : List Int} {k : Nat} (h : k < zs.length) : zs.take (k + 1) = zs.take k ++ [zs[k]?.getD 0] := by
  rw [List.take_add_one, List.getElem?_eq_getElem h]
  rfl

set_option maxRecDepth 100000 in
set_option maxHeartbeats 2000000 in
theorem uvalues1_in (F : Fence) (n : Nat) (hf : F.fn 32) (hro : F.round = none) (hn : 1 ≤ n) (l Bs n₀ b off cap : Nat) (zs : List Int) (hlen : zs.length ≤ 1000000) (hb : b < n₀) (J Jx : List Int → World → Prop)
    (hY : ∀ pre x W, J pre W → pre.length < zs.length → YieldAt F (n - 1) Try.prog l #[.int .u32 x] W fun e W' =>
      (e = .returned (.bool true) ∧ J (pre ++ [x]) W' ∧ Below n₀ W W') ∨ (e = .returned (.bool false) ∧ Jx (pre ++ [x]) W'))
    (W : World) (hBs : W.cell? ⟨Bs, 0, none⟩ = some (.slice (some ⟨b, off, none⟩) zs.length cap)) (hc : ∀ j, j < zs.length → W.cell? ⟨b, off + j, none⟩ = some (.int .u32 (zs[j]?.getD 0))) (h0 : J [] W) :
    CallsIn F n Try.prog 32 #[.func (.yield l) #[] #[], .pointer (some ⟨Bs, 0, none⟩)] W fun e W' => (∃ v, e = .returned v) ∧
      (J zs W' ∨ (∃ pre, pre <+: zs ∧ Jx pre W')) := by
  refine callsIn_of_wp Try.func32 rfl hf ?_ hro
  simp only [Try.ntmps32, List.size_toArray, List.length_cons, List.length_nil, Nat.reduceAdd, Nat.reduceSub, Array.replicate_succ, Array.replicate_zero, List.push_toArray, List.append_toArray, List.nil_append, List.cons_append]
  gi_wp2
  gi_loopw [7] (fun i wr => ∃ k : Nat, k ≤ zs.length ∧ i = .int .i64 k ∧ J (zs.take k) wr ∧ Below n₀ W wr)
    (fun i _ => zs.length - (intOf i).toNat)
  case atStart => exact ⟨0, Nat.zero_le _, rfl, h0, Below.refl _ _⟩
  case round =>
    obtain ⟨k, hk, rfl, hJs, hnx⟩ := hrel
    have hcx : k < zs.length → wr.cell? ⟨b, off + k, none⟩ = some (.int .u32 (zs[k]?.getD 0)) := fun h => (hnx.cell (p := ⟨b, off + k, none⟩) hb).trans (hc k h)
    by_cases hlt : k < zs.length
    · have htk := take_getD hlt
      obtain ⟨x, hx⟩ : ∃ x, zs[k]?.getD 0 = x := ⟨_, rfl⟩
      rw [hx] at htk hcx
      have HTK := Lib.hid htk
      clear hx htk
      obtain ⟨fn, tmps, assign, body, hy, hR⟩ := hY _ x wr hJs (by rw [List.length_take]; omega)
      have hcx' := hcx hlt
      gi_wp2
      refine hR.mono ?_
      rintro e W3 (⟨rfl, hJ3, hk3⟩ | ⟨rfl, hJx3⟩)
      · gi_wp2
        go_roundw
        case rel => exact ⟨k + 1, by omega, by simp, by rw [HTK.out]; exact hJ3, hnx.trans hk3⟩
        case measure => simp [intOf]; omega
      · gi_wp2
        refine bodyPost_ret (results_none rfl _ _ _) rfl ?_
        exact ⟨⟨_, rfl⟩, .inr ⟨_, List.take_prefix (k + 1) zs, by rw [HTK.out]; exact hJx3⟩⟩
    · obtain rfl : k = zs.length := by omega
      rw [List.take_length] at hJs
      gi_wp2
      go_end0
      exact ⟨⟨_, rfl⟩, .inl hJs⟩

set_option maxRecDepth 100000 in
set_option maxHeartbeats 1000000 in
theorem uvalues1_nil_in (F : Fence) (n : Nat) (hf : F.fn 32) (hro : F.round = none) (l Bs : Nat) (J : List Int → World → Prop) (W : World) (A : Option Addr) (c : Nat) (hBs : W.cell? ⟨Bs, 0, none⟩ = some (.slice A 0 c)) (h0 : J [] W) :
    CallsIn F n Try.prog 32 #[.func (.yield l) #[] #[], .pointer (some ⟨Bs, 0, none⟩)] W fun e W' => (∃ v, e = .returned v) ∧ J [] W' := by
  refine callsIn_of_wp Try.func32 rfl hf ?_ hro
  simp only [Try.ntmps32, List.size_toArray, List.length_cons, List.length_nil, Nat.reduceAdd, Nat.reduceSub, Array.replicate_succ, Array.replicate_zero, List.push_toArray, List.append_toArray, List.nil_append, List.cons_append]
  gi_wp2
  gi_loopw [7] (fun i wr => i = .int .i64 0 ∧ J [] wr) (fun _ _ => 0)
  case atStart => exact ⟨rfl, h0⟩
  case round =>
    obtain ⟨rfl, hJs⟩ := hrel
    gi_wp2
    go_end0
    exact ⟨⟨_, rfl⟩, hJs⟩

/-- slices.Values(s)'s value: all of zs in order, or a prefix. -/
theorem uvalues_stops (F : Fence) (n : Nat) (hf : F.fn 32) (hro : F.round = none) (hn : 1 ≤ n) (Bs n₀ : Nat) (sv : Value) (zs : List Int) (hlen : zs.length ≤ 1000000) (w : World) (hBs : Bs < w.heap.size) (hn₀ : n₀ ≤ w.heap.size)
    (hc : w.cell? ⟨Bs, 0, none⟩ = some sv) (hI : RdBelow n₀ w sv zs) :
    SeqStopsK F n Try.prog 32 #[.pointer (some ⟨Bs, 0, none⟩)] (fun x : Int => #[Value.int .u32 x]) (Below n₀) (fun ys => ys = zs) (fun pre => pre <+: zs) zs.length w := fun l J Jx W hW _ _ hY h0 => by
  have hc' := (hW.cell (p := ⟨Bs, 0, none⟩) hBs).trans hc
  rcases hI.below (hW.mono hn₀) with ⟨rfl, A, c, rfl⟩ | ⟨b, off, cap, rfl, hb, hcs⟩
  · exact (uvalues1_nil_in F n hf hro l Bs J W A c hc' h0).mono fun e W' ⟨he, hj⟩ => ⟨he, .inl ⟨_, rfl, hj⟩⟩
  · refine (uvalues1_in F n hf hro hn l Bs n₀ b off cap zs hlen hb J Jx hY W hc' hcs h0).mono ?_
    rintro e W' ⟨he, hj | ⟨pre, hp, hj⟩⟩
    · exact ⟨he, .inl ⟨_, rfl, hj⟩⟩
    · exact ⟨he, .inr ⟨_, hp, hj⟩⟩

set_option maxHeartbeats 1000000 in
theorem uvalues_any (a : Option Addr) (len cap : Nat) (w : World) :
    Calls Try.prog 26 #[.slice a len cap] w fun e w' => e = .returned (.func (.func 32) #[] #[.pointer (some ⟨w.heap.size, 0, none⟩)]) ∧ w' = w.alloc (.cells #[.slice a len cap] 22) := by
  go_enter Try.func26, Try.ntmps26
  go_wp2
  go_ret
  exact ⟨rfl, rfl⟩

end Go.Proofs.Ytmhhmenhfocfjaa
