/- The table of locks: Owner, Blocked. -/
import Derived.Test.YtflalhciohdahaaLock
namespace Go.Proofs.Ytflalhciohdahaa
open Go.RowKit

/-- A look-up in the table's map. -/
theorem Tab.look {w : World} {b bm : Nat} {O : List Int} {N : Int} (h : Tab w b bm O N) {k : Int} (hk : okI k) :
    (Instr.lookup 59 (.map (some bm)) (.int .i64 k) true).run Try.prog w = .ok (.tuple #[.int .i64 (max (ownerP O k) 0), .bool (decide (0 ≤ ownerP O k))]) w := by
  obtain ⟨l, hm, _, hg⟩ := h.map
  have h1 := hm.run_look_ok (t := 59) (e := 3) Try.underlying59 (zeroInt w) hk
  rw [hg k hk] at h1
  have h2 : (cellAt O k).getD (.int .i64 0) = .int .i64 (max (ownerP O k) 0) ∧ (cellAt O k).isSome = decide (0 ≤ ownerP O k) := by
    unfold cellAt
    by_cases h3 : 0 ≤ ownerP O k
    · rw [if_pos h3, decide_eq_true h3, show max (ownerP O k) 0 = ownerP O k by omega]
      exact ⟨rfl, rfl⟩
    · rw [if_neg h3, decide_eq_false h3, show max (ownerP O k) 0 = 0 by omega]
      exact ⟨rfl, rfl⟩
  rw [h2.1, h2.2] at h1
  exact h1

theorem Tab.look0 {w : World} {b bm : Nat} {O : List Int} {N : Int} (h : Tab w b bm O N) {k : Int} (hk : okI k) :
    (Instr.lookup 59 (.map (some bm)) (.int .i64 k) false).run Try.prog w = .ok (.int .i64 (max (ownerP O k) 0)) w := by
  obtain ⟨l, hm, _, hg⟩ := h.map
  have h1 := hm.run_look (t := 59) (e := 3) Try.underlying59 (zeroInt w) hk
  rw [hg k hk] at h1
  have h2 : (cellAt O k).getD (.int .i64 0) = .int .i64 (max (ownerP O k) 0) := by
    unfold cellAt
    by_cases h3 : 0 ≤ ownerP O k
    · rw [if_pos h3, show max (ownerP O k) 0 = ownerP O k by omega]
      rfl
    · rw [if_neg h3, show max (ownerP O k) 0 = 0 by omega]
      rfl
  rw [h2] at h1
  exact h1

set_option maxHeartbeats 400000 in
theorem lowner_any {w : World} {b bm : Nat} {O : List Int} {N : Int} (h : Tab w b bm O N) (k : Int) (hk : okI k) :
    Calls Try.prog 20 #[.pointer (some ⟨b, 0, none⟩), .int .i64 k] w fun e w' => e = .returned (.tuple #[.int .i64 (max (ownerP O k) 0), .bool (decide (0 ≤ ownerP O k))]) ∧ w = w' := by
  have c1 : w.cell? ⟨b, 1, none⟩ = some (.map (some bm)) := h.blk.cell 1
  have hlk := h.look hk
  generalize decide (0 ≤ ownerP O k) = q at *
  generalize max (ownerP O k) 0 = x at *
  go_enter Try.func20, Try.ntmps20
  go_wp2
  go_ret2
  exact ⟨rfl, rfl⟩

theorem blocked1_pred {w : World} {b bm : Nat} {O : List Int} {N : Int} (h : Tab w b bm O N) (o : Int) (gt go : Nat) (ht : Blk w gt 23 #[.pointer (some ⟨b, 0, none⟩)]) (ho : Blk w go 3 #[.int .i64 o]) :
    IsPredI w 34 #[.pointer (some ⟨gt, 0, none⟩), .pointer (some ⟨go, 0, none⟩)] (fun k => notMine O o k) := by
  intro W k hk hn
  have hW := h.new hn
  have c0 : W.cell? ⟨gt, 0, none⟩ = some (.pointer (some ⟨b, 0, none⟩)) := (hn.blk ht).cell 0
  have c1 : W.cell? ⟨go, 0, none⟩ = some (.int .i64 o) := (hn.blk ho).cell 0
  have c2 : W.cell? ⟨b, 1, none⟩ = some (.map (some bm)) := hW.blk.cell 1
  have hlk := hW.look hk
  show Calls Try.prog 34 #[.int .i64 k, .pointer (some ⟨gt, 0, none⟩), .pointer (some ⟨go, 0, none⟩)] W fun e w' => e = .returned (.bool (notMine O o k)) ∧ New W w'
  have hlo := ownerP_lo h.ows k
  have hnm : notMine O o k = (decide (ownerP O k < 0) || decide (ownerP O k ≠ o)) := rfl
  rw [hnm]
  clear hW h ht ho hn hnm hk
  generalize ownerP O k = x at *
  by_cases hx : 0 ≤ x
  · rw [decide_eq_true hx, show max x 0 = x by omega] at hlk
    rw [decide_eq_false (by omega : ¬ x < 0), Bool.false_or]
    by_cases hxo : x = o
    · subst hxo
      have hq : decide (x ≠ x) = false := by simp
      rw [hq]
      clear hq
      go_enter Try.func34, Try.ntmps34
      go_wp2
      go_ret
      exact ⟨rfl, New.refl _⟩
    · have hb : (x != o) = true := by simp [hxo]
      rw [decide_eq_true hxo]
      go_enter Try.func34, Try.ntmps34
      go_wp2
      go_ret
      exact ⟨rfl, New.refl _⟩
  · rw [decide_eq_false hx, show max x 0 = 0 by omega] at hlk
    rw [decide_eq_true (by omega : x < 0), Bool.true_or]
    go_enter Try.func34, Try.ntmps34
    go_wp2
    go_ret
    exact ⟨rfl, New.refl _⟩

theorem find_at {p : Int → Bool} {l : List Int} {i : Int} (h : FirstAtI p l i) : (i = -1 ∧ l.find? p = none) ∨ ∃ (k : Nat) (x : Int), i = k ∧ l[k]? = some x ∧ l.find? p = some x := by
  rcases h with ⟨rfl, h⟩ | ⟨k, x, rfl, hx, hp, hb⟩
  · exact .inl ⟨rfl, List.find?_eq_none.2 fun x hx => by rw [h x hx]; simp⟩
  · refine .inr ⟨k, x, rfl, hx, ?_⟩
    have hk := (List.getElem?_eq_some_iff.1 hx).1
    have hl : l = l.take k ++ x :: l.drop (k + 1) := by
      rw [← (List.getElem?_eq_some_iff.1 hx).2, ← List.drop_eq_getElem_cons hk, List.take_append_drop]
    rw [hl, List.find?_append, List.find?_eq_none.2 (fun y hy => by rw [hb y hy]; simp), List.find?_cons_of_pos hp]
    rfl

set_option maxRecDepth 100000 in
set_option maxHeartbeats 400000 in
theorem lblocked_any {w : World} {b bm : Nat} {O : List Int} {N : Int} (h : Tab w b bm O N) (o : Int) (u : Value) (l : List Int) (hu : Rd (intE .i64) w u l) (hok : ∀ x ∈ l, okI x) (hl : l.length ≤ 100000) :
    Calls Try.prog 16 #[.pointer (some ⟨b, 0, none⟩), .int .i64 o, u] w fun e w' => e = .returned (.bool (blockedP O o l)) ∧ New w w' := by
  have hmf : ∀ (fn : Fn) (first cap : Array Value) (w : World), (Instr.makeFunc fn first cap).run Try.prog w = .ok (.func fn first cap) w := fun _ _ _ _ => rfl
  have hlt := h.blk.lt
  have hb1 : Blk (w.alloc (.cells #[.pointer (some ⟨b, 0, none⟩)] 23)) w.heap.size 23 #[.pointer (some ⟨b, 0, none⟩)] := Blk.new _ _ _
  have hb2 : Blk ((w.alloc (.cells #[.pointer (some ⟨b, 0, none⟩)] 23)).alloc (.cells #[.int .i64 o] 3)) (w.heap.size + 1) 3 #[.int .i64 o] := Blk.new1 _ _ _ _
  have hn2 : New w ((w.alloc (.cells #[.pointer (some ⟨b, 0, none⟩)] 23)).alloc (.cells #[.int .i64 o] 3)) := ((New.refl w).alloc _).alloc _
  have hpr := blocked1_pred (h.new hn2) o _ _ (hb1.alloc (.cells #[.int .i64 o] 3)) hb2
  have hui := hu.new hn2
  have HU := Lib.hid hui
  have HP := Lib.hid hpr
  have HOK := Lib.hid hok
  have H := Lib.hid h
  obtain ⟨A, c, rfl, hA⟩ := hu
  clear hui hpr hok hA h
  generalize hq : blockedP O o l = q
  have HQ := Lib.hid hq
  clear hq
  go_enter Try.func16, Try.ntmps16
  go_wp2_with fail
  refine (iindex_any 34 #[.pointer (some ⟨w.heap.size, 0, none⟩), .pointer (some ⟨w.heap.size + 1, 0, none⟩)] _ (enters _ _ _ Try.func34 (by kernel_rfl) rfl) _ l _ HP.out HU.out HOK.out (by omega)).mono ?_
  rintro e w1 ⟨i, rfl, hf, hn1⟩
  have H1 := H.out.new (hn2.trans hn1)
  have hn3 := hn2.trans hn1
  rcases find_at hf with ⟨rfl, hfi⟩ | ⟨k, x, rfl, hx, hfi⟩
  · have hq := HQ.out
    unfold blockedP at hq
    rw [hfi] at hq
    subst hq
    clear hfi hf
    go_wp2
    go_ret
    exact ⟨rfl, hn3⟩
  · have hq := HQ.out
    unfold blockedP at hq
    rw [hfi] at hq
    have hq2 : decide (0 ≤ ownerP O x) = q := hq
    have hok : okI x := HOK.out x (List.mem_of_getElem? hx)
    have hlk := fun n => (H1.new ((New.refl w1).drewN n)).look hok
    rw [hq2] at hlk
    have hkl := (List.getElem?_eq_some_iff.1 hx).1
    obtain ⟨A1, c1, he1, _, hA1⟩ := (HU.out.new hn1).ints
    injection he1 with e1 e2 e3
    subst e1 e3
    obtain ⟨bb, off, rfl, hcell⟩ := hA1 (by rintro rfl; simp at hkl)
    have e0 : w1.cell? ⟨bb, off + k, none⟩ = some (.int .i64 x) := hcell k x hx
    have t0 : w1.cell? ⟨w.heap.size, 0, none⟩ = some (.pointer (some ⟨b, 0, none⟩)) := (hn1.blk (hb1.alloc (.cells #[.int .i64 o] 3))).cell 0
    have t1 : w1.cell? ⟨b, 1, none⟩ = some (.map (some bm)) := H1.blk.cell 1
    clear hfi hf hq hq2 hx hcell hA1 hok e2
    go_wp2
    go_quiet (fail)
    go_wp2
    go_ret
    exact ⟨rfl, hn3.drewN _⟩

end Go.Proofs.Ytflalhciohdahaa
