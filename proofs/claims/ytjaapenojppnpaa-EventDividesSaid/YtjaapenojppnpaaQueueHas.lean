/- The queue of events: Has, and the methods on a nil queue; the library's ContainsFunc at events. -/
import Derived.Test.YtjaapenojppnpaaQueue
namespace Go.Proofs.Ytjaapenojppnpaa
open Go.RowKit

set_option maxHeartbeats 1600000 in
theorem indexFunc_any (g : Nat) (lb : Array Value) (p : Ev → Bool) (hE : ∀ args w, (callFunc g args).run Try.prog w = .ok (.enter g args) w) (v : Value) (l : List Ev) (w : World) (hp : IsPred w g lb p) (hv : Rd evE w v l) (hl : l.length ≤ 1000000) :
    Calls Try.prog 34 #[v, .func (.func g) #[] lb] w fun e w' => (∃ i : Int, e = .returned (.int .i64 i) ∧ -1 ≤ i ∧ (0 ≤ i ↔ l.any p = true)) ∧ New w w' := by
  obtain ⟨A, c, rfl, hc, hcells⟩ := hv
  have HC := Lib.hid hcells
  clear hcells
  go_enter Try.func34, Try.ntmps34
  go_wp2
  go_loopw [8] (fun vi wr => ∃ k : Nat, k ≤ l.length ∧ vi = .int .i64 k ∧ Hid (∀ x, x ∈ l.take k → p x = false) ∧ New w wr) (fun vi _ => l.length - (intOf vi).toNat)
  case atStart => exact ⟨0, Nat.zero_le _, rfl, fun x hx => by simp at hx, New.refl _⟩
  case round =>
    obtain ⟨k, hk, rfl, HS, hnew⟩ := hrel
    by_cases hkl : k < l.length
    · obtain ⟨x, hx⟩ : ∃ x, l[k]? = some x := ⟨_, List.getElem?_eq_getElem hkl⟩
      obtain ⟨b, off, rfl, hcell⟩ := HC.out (by rintro rfl; simp at hkl)
      obtain ⟨xk, xu, xf⟩ := x
      have c0 : wr.cell? ⟨b, off + k * 3, none⟩ = some (.int .i64 xk) := Fr.cell hnew (hcell k _ hx 0 _ rfl) id
      have c1 : wr.cell? ⟨b, off + k * 3 + 1, none⟩ = some (.int .u32 xu) := Fr.cell hnew (hcell k _ hx 1 _ rfl) id
      have c2 : wr.cell? ⟨b, off + k * 3 + 2, none⟩ = some (.int .u8 xf) := Fr.cell hnew (hcell k _ hx 2 _ rfl) id
      have HX := Lib.hid hx
      clear hcell hx
      have hcall := hp _ ⟨xk, xu, xf⟩ hnew
      cases hpx : p ⟨xk, xu, xf⟩
      all_goals
        rw [hpx] at hcall
        have HP := Lib.hid hpx
        have HCALL := Lib.hid hcall
        clear hpx hcall
        go_wp2_with fail
        refine HCALL.out.mono ?_
        rintro e w1 ⟨rfl, hn1⟩
        go_wp2
      · go_roundw
        case rel =>
          refine ⟨k + 1, by omega, by go_num, fun x hx => ?_, hnew.trans hn1⟩
          rw [take_snoc HX.out] at hx
          rcases List.mem_append.1 hx with hx | hx
          · exact HS.out x hx
          · rw [List.mem_singleton.1 hx]; exact HP.out
        case measure => simp [intOf]; omega
      · go_ret
        refine ⟨⟨k, rfl, by omega, fun _ => ?_, fun _ => by omega⟩, hnew.trans hn1⟩
        exact List.any_eq_true.2 ⟨_, List.mem_of_getElem? HX.out, HP.out⟩
    · go_wp2
      go_ret
      refine ⟨⟨-1, rfl, by omega, fun h => by omega, fun h => ?_⟩, hnew⟩
      obtain ⟨x, hx, hpx⟩ := List.any_eq_true.1 h
      have := HS.out x (by rw [List.take_of_length_le (by omega)]; exact hx)
      rw [this] at hpx
      cases hpx

set_option maxHeartbeats 1600000 in
theorem containsFunc_any (g : Nat) (lb : Array Value) (p : Ev → Bool) (hE : ∀ args w, (callFunc g args).run Try.prog w = .ok (.enter g args) w) (v : Value) (l : List Ev) (w : World) (hp : IsPred w g lb p) (hv : Rd evE w v l) (hl : l.length ≤ 1000000) :
    Calls Try.prog 28 #[v, .func (.func g) #[] lb] w fun e w' => e = .returned (.bool (l.any p)) ∧ New w w' := by
  have h := indexFunc_any g lb p hE v l w hp hv hl
  generalize l.any p = q at h ⊢
  have H := Lib.hid h
  clear h hp hv hE
  go_enter Try.func28, Try.ntmps28
  go_wp2_with fail
  refine H.out.mono ?_
  rintro e w1 ⟨⟨i, rfl, h1, h2⟩, hn⟩
  have H2 := Lib.hid h2
  clear h2
  cases q
  · have hi : decide ((0 : Int) ≤ i) = false := by
      refine decide_eq_false fun h => ?_
      have := H2.out.1 h
      cases this
    go_wp2
    go_ret
    exact ⟨rfl, hn⟩
  · have hi : decide ((0 : Int) ≤ i) = true := decide_eq_true (H2.out.2 rfl)
    go_wp2
    go_ret
    exact ⟨rfl, hn⟩

set_option maxHeartbeats 800000 in
theorem has1_pred (w : World) (g : Nat) (uid : Int) (hg : Blk w g 26 #[.int .u32 uid]) : IsPred w 33 #[.pointer (some ⟨g, 0, none⟩)] (fun x => decide (x.k = 2 ∧ x.u = uid)) := by
  intro W x hn
  have hc : W.cell? ⟨g, 0, none⟩ = some (.int .u32 uid) := (hn.blk hg).cell 0
  have hlt := (hn.blk hg).lt
  have hc1 : ∀ o, (W.alloc o).cell? ⟨g, 0, none⟩ = some (.int .u32 uid) := fun o => (Blk.alloc (hn.blk hg) o).cell 0
  obtain ⟨k, u, f⟩ := x
  show Calls Try.prog 33 #[(Ev.val ⟨k, u, f⟩), .pointer (some ⟨g, 0, none⟩)] W _
  unfold Ev.val
  dsimp only
  have he := ev_eql k u f 2 uid f
  have hd : decide ((⟨k, u, f⟩ : Ev) = ⟨2, uid, f⟩) = decide (k = 2 ∧ u = uid) := by
    simp only [Ev.mk.injEq, and_true]
  simp only [hd] at he
  generalize decide (k = 2 ∧ u = uid) = q at he ⊢
  have hgd := ev_guard
  clear hd
  go_enter Try.func33, Try.ntmps33
  go_wp2
  go_ret
  exact ⟨rfl, (New.refl _).alloc _⟩

set_option maxHeartbeats 800000 in
theorem has_any {w : World} {b : Nat} {v : Value} {l : List Ev} (h : Que w b v l) (uid : Int) (hl : l.length ≤ 1000000) :
    Calls Try.prog 22 #[.pointer (some ⟨b, 0, none⟩), .int .u32 uid] w fun e w' => e = .returned (.bool (l.any fun x => decide (x.k = 2 ∧ x.u = uid))) ∧ New w w' := by
  have hmf : ∀ (fn : Fn) (first cap : Array Value) (w : World), (Instr.makeFunc fn first cap).run Try.prog w = .ok (.func fn first cap) w := fun _ _ _ _ => rfl
  have c0 : w.cell? ⟨b, 0, none⟩ = some v := h.blk.cell 0
  have hlt := h.blk.lt
  obtain ⟨A, N, C, rfl⟩ := own_shape h.own
  have hbox : Blk (w.alloc (.cells #[.int .u32 uid] 26)) w.heap.size 26 #[.int .u32 uid] := Blk.new _ _ _
  have h0 : Que (w.alloc (.cells #[.int .u32 uid] 26)) b (.slice A N C) l := h.new ((New.refl _).alloc _)
  have H := containsFunc_any 33 #[.pointer (some ⟨w.heap.size, 0, none⟩)] _ (enters _ _ _ Try.func33 (by kernel_rfl) rfl) _ l _ (has1_pred _ w.heap.size uid hbox) h0.own.rd hl
  generalize (l.any fun x => decide (x.k = 2 ∧ x.u = uid)) = q at H ⊢
  have HH := Lib.hid H
  clear H hbox h0
  go_enter Try.func22, Try.ntmps22
  go_wp2_with fail
  refine HH.out.mono ?_
  rintro e w1 ⟨rfl, hn⟩
  go_wp2
  go_ret
  exact ⟨rfl, ((New.refl _).alloc _).trans hn⟩

section
variable (w : World)
set_option maxHeartbeats 400000 in
theorem push_nil (u : Value) : Calls Try.prog 16 #[.pointer none, u] w fun e w' => e = .returned (.tuple #[]) ∧ w = w' := by
  go_enter Try.func16, Try.ntmps16
  go_wp2
  go_end0
  exact ⟨rfl, rfl⟩
set_option maxHeartbeats 400000 in
theorem flush_nil (gone : Bool) : Calls Try.prog 20 #[.pointer none, .bool gone] w fun e w' => e = .returned (.slice none 0 0) ∧ New w w' := by
  go_enter Try.func20, Try.ntmps20
  go_wp2
  go_ret
  exact ⟨rfl, (New.refl _).alloc _⟩
set_option maxHeartbeats 400000 in
theorem len_nil : Calls Try.prog 21 #[.pointer none] w fun e w' => e = .returned (.int .i64 0) ∧ w = w' := by
  go_enter Try.func21, Try.ntmps21
  go_wp2
  go_ret
  exact ⟨rfl, rfl⟩
set_option maxHeartbeats 400000 in
theorem clear_nil : Calls Try.prog 18 #[.pointer none] w fun e w' => e = .returned (.int .i64 0) ∧ w = w' := by
  go_enter Try.func18, Try.ntmps18
  go_wp2_with (go_at_call 21; refine (len_nil _).mono ?_; rintro e w' ⟨rfl, rfl⟩)
  go_ret
  exact ⟨rfl, rfl⟩
set_option maxHeartbeats 400000 in
theorem has_nil (uid : Int) : Calls Try.prog 22 #[.pointer none, .int .u32 uid] w fun e w' => e = .returned (.bool false) ∧ New w w' := by
  go_enter Try.func22, Try.ntmps22
  go_wp2
  go_ret
  exact ⟨rfl, (New.refl _).alloc _⟩
end

end Go.Proofs.Ytjaapenojppnpaa
