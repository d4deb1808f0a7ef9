/- The table of locks: Held. -/
import Derived.Test.YtflalhciohdahaaLock2
import Derived.Test.YtflalhciohdahaaLockShelf
namespace Go.Proofs.Ytflalhciohdahaa
open Go.RowKit Go.Maps

theorem sortsA (m : Nat) : AnyZI.SortsIn Try.prog sortedA_ren Fence.wide m :=
  ⟨fun blk off cap ss W hH hblk hsz => callsIn_wide.2 (AnyM.slices_Sort_int sortA blk off cap ss W hH hblk hsz),
   fun p cap W => callsIn_wide.2 (AnyM.slices_Sort_int_none sortA p cap W)⟩

theorem keys_any (mb : Option Nat) (w : World) : Calls Try.prog 37 #[.map mb] w fun e w' => e = .returned (.func (.func 44) #[] #[.pointer (some ⟨w.heap.size, 0, none⟩)]) ∧ w' = w.alloc (.cells #[.map mb] 59) :=
  (callsIn_wide (n := 5)).1 (AnyZI.keys_in keysA Fence.wide 5 trivial rfl mb w)

/-- Collected, sorted: the map's keys, ascending. -/
theorem sorted_any {w : World} {g bm : Nat} {l : List (Int × Value)} (hg : Blk w g 59 #[.map (some bm)]) (hm : HasMap iKeys w bm l) (hl : l.length ≤ 1000000) :
    Calls Try.prog 36 #[.func (.func 44) #[] #[.pointer (some ⟨g, 0, none⟩)]] w fun e w' => ∃ v s, e = .returned v ∧ Own (intE .i64) 3 w.heap.size w' v s ∧ s.Pairwise (· < ·) ∧ (∀ x, x ∈ s ↔ okI x ∧ (get l x).isSome) ∧ s.length ≤ l.length ∧ New w w' := by
  obtain ⟨D, h1, h2, h3⟩ := hm.own
  have hgl := hg.lt
  have hseq : SeqGives Fence.wide 2 Try.prog 44 #[.pointer (some ⟨g, 0, none⟩)] encZ (fun ss => ss.Perm (Go.intKeys D)) (Maps.size D) w :=
    AnyZI.keys_gives (ρ := keysA_ren) { keysA with } Fence.wide _ trivial rfl (by omega) g bm _ D _ hgl (hg.cell 0) h1
  have cS := AnyZI.sorted_in sortedA Fence.wide 5 trivial trivial trivial trivial rfl (by omega) (sortsA _) (enters_of Try.func27 (by kernel_rfl) rfl) 44 #[.pointer (some ⟨g, 0, none⟩)] trivial (enters_of Try.func44 (by kernel_rfl) rfl) _ (Maps.size D) (by rw [h2]; unfold maxLen; omega) (by rw [h2]; omega) w hseq
  refine ((callsIn_wide (n := 5)).1 cS).mono ?_
  rintro e w' ⟨v, ss, rfl, hperm, hrow, _, hb⟩
  obtain ⟨es, hD, hpw, _⟩ := h1.entries iKeys.law
  obtain ⟨es', hD', hko⟩ := h1.keysOf
  obtain rfl : es = es' := by rw [hD] at hD'; simpa using hD'
  have hks : ∀ p ∈ es, ∃ x : Int, p.1 = .int .i64 x ∧ okI x := fun p hp => by
    obtain ⟨v, hv⟩ := hko p hp
    obtain ⟨x, _, hx, hw⟩ := Maps.keyOf_i64 Try.underlying3 hv
    exact ⟨x, hx, hw⟩
  have hnd : (Go.intKeys D).Nodup := by
    subst hD
    show (es.map fun p => Go.intOf p.1).Nodup
    refine List.pairwise_map.2 (hpw.imp_of_mem fun {p q} hp' hq' hne e => hne ?_)
    obtain ⟨a, ha, _⟩ := hks p hp'
    obtain ⟨b, hb, _⟩ := hks q hq'
    rw [ha, hb] at e ⊢
    exact congrArg _ e
  have hmem : ∀ x, x ∈ Go.intKeys D ↔ okI x ∧ (get l x).isSome := by
    intro x
    have hh : ∀ x, okI x → (Maps.has D (.int .i64 x) = (get l x).isSome) := fun x hx => has_of (h3 x hx)
    subst hD
    show x ∈ es.map (fun p => Go.intOf p.1) ↔ _
    rw [List.mem_map]
    constructor
    · rintro ⟨p, hp, rfl⟩
      obtain ⟨a, ha, hw⟩ := hks p hp
      have e1 : Go.intOf p.1 = a := by rw [ha]; rfl
      rw [e1]
      refine ⟨hw, ?_⟩
      rw [← hh a hw, has_eq, List.any_eq_true]
      exact ⟨p, hp, by rw [ha]; simp [Lit.sameKey]⟩
    · rintro ⟨hw, hs⟩
      rw [← hh x hw, has_eq, List.any_eq_true] at hs
      obtain ⟨p, hp, hq⟩ := hs
      obtain ⟨a, ha, _⟩ := hks p hp
      refine ⟨p, hp, ?_⟩
      rw [ha] at hq ⊢
      simpa [Lit.sameKey, Go.intOf] using hq
  have hsp : (ss.mergeSort (fun x y => decide (x ≤ y))).Perm (Go.intKeys D) := (List.mergeSort_perm ss _).trans hperm
  have hlen : ss.length ≤ l.length := by
    have e1 := hperm.length_eq
    have e2 : (Go.intKeys D).length = es.length := by subst hD; exact List.length_map _
    have e3 : es.length = l.length := by rw [← h2]; subst hD; rfl
    omega
  refine ⟨v, ss.mergeSort (fun x y => decide (x ≤ y)), rfl, ?_, ?_, fun x => ?_, ?_, New.of_below hb⟩
  · unfold Own
    rw [intE_cells, List.length_mergeSort]
    exact hrow
  · have hs := List.pairwise_mergeSort (le := fun x y : Int => decide (x ≤ y)) (fun a b c h1 h2 => by simp only [decide_eq_true_eq] at *; omega) (fun a b => by simp only [Bool.or_eq_true, decide_eq_true_eq]; omega) ss
    have hn : (ss.mergeSort (fun x y => decide (x ≤ y))).Nodup := hsp.nodup_iff.2 hnd
    exact (hs.and hn).imp fun {a b} h => by have h4 := h.1; have h5 := h.2; simp only [decide_eq_true_eq] at h4; omega
  · rw [hsp.mem_iff]
    exact hmem x
  · rw [List.length_mergeSort]
    exact hlen

theorem held1_pred {w : World} {b bm : Nat} {O : List Int} {N : Int} (h : Tab w b bm O N) (o : Int) (gt go : Nat) (ht : Blk w gt 23 #[.pointer (some ⟨b, 0, none⟩)]) (ho : Blk w go 3 #[.int .i64 o]) :
    IsPredI w 38 #[.pointer (some ⟨gt, 0, none⟩), .pointer (some ⟨go, 0, none⟩)] (fun k => max (ownerP O k) 0 != o) := by
  intro W k hk hn
  have hW := h.new hn
  have c0 : W.cell? ⟨gt, 0, none⟩ = some (.pointer (some ⟨b, 0, none⟩)) := (hn.blk ht).cell 0
  have c1 : W.cell? ⟨go, 0, none⟩ = some (.int .i64 o) := (hn.blk ho).cell 0
  have c2 : W.cell? ⟨b, 1, none⟩ = some (.map (some bm)) := hW.blk.cell 1
  have hlk := fun n => (hW.new ((New.refl W).drewN n)).look0 hk
  have hlk0 := hlk 0
  show Calls Try.prog 38 #[.int .i64 k, .pointer (some ⟨gt, 0, none⟩), .pointer (some ⟨go, 0, none⟩)] W fun e w' => e = .returned (.bool (max (ownerP O k) 0 != o)) ∧ New W w'
  clear hW h ht ho hn hk hlk0
  generalize max (ownerP O k) 0 = x at *
  go_enter Try.func38, Try.ntmps38
  go_wp2
  go_quiet (fail)
  go_wp2
  go_ret
  exact ⟨rfl, (New.refl _).drewN _⟩

set_option maxHeartbeats 1600000 in
theorem lheld_any {w : World} {b bm : Nat} {O : List Int} {N : Int} (h : Tab w b bm O N) (o : Int) :
    Calls Try.prog 23 #[.pointer (some ⟨b, 0, none⟩), .int .i64 o] w fun e w' => ∃ v, e = .returned v ∧ Own (intE .i64) 3 w.heap.size w' v (heldP O o) ∧ New w w' := by
  have hmf : ∀ (fn : Fn) (first cap : Array Value) (w : World), (Instr.makeFunc fn first cap).run Try.prog w = .ok (.func fn first cap) w := fun _ _ _ _ => rfl
  have hlt := h.blk.lt
  have hb1 : Blk ((w.alloc (.cells #[.pointer (some ⟨b, 0, none⟩)] 23)).alloc (.cells #[.int .i64 o] 3)) w.heap.size 23 #[.pointer (some ⟨b, 0, none⟩)] := (Blk.new _ _ _).alloc _
  have hb2 : Blk ((w.alloc (.cells #[.pointer (some ⟨b, 0, none⟩)] 23)).alloc (.cells #[.int .i64 o] 3)) (w.heap.size + 1) 3 #[.int .i64 o] := Blk.new1 _ _ _ _
  have hn2 : New w ((w.alloc (.cells #[.pointer (some ⟨b, 0, none⟩)] 23)).alloc (.cells #[.int .i64 o] 3)) := ((New.refl w).alloc _).alloc _
  have c1 : w.cell? ⟨b, 1, none⟩ = some (.map (some bm)) := h.blk.cell 1
  have hn2s := hn2.size
  have hsz : ((w.alloc (.cells #[.pointer (some ⟨b, 0, none⟩)] 23)).alloc (.cells #[.int .i64 o] 3)).heap.size = w.heap.size + 2 := by simp
  go_enter Try.func23, Try.ntmps23
  go_wp2_with fail
  refine (keys_any _ _).mono ?_
  rintro e w1 ⟨rfl, hw1⟩
  rw [hsz]
  clear hn2s
  have hg : Blk w1 (w.heap.size + 2) 59 #[.map (some bm)] := by rw [hw1, ← hsz]; exact Blk.new _ _ _
  have hn3 : New w w1 := by rw [hw1]; exact hn2.alloc _
  have hb1' : Blk w1 w.heap.size 23 #[.pointer (some ⟨b, 0, none⟩)] := by rw [hw1]; exact hb1.alloc _
  have hb2' : Blk w1 (w.heap.size + 1) 3 #[.int .i64 o] := by rw [hw1]; exact hb2.alloc _
  clear hw1
  have h1 := h.new hn3
  obtain ⟨l, hm, hll, hgt⟩ := h1.map
  have hOl := h.len
  have hNN := h.hi
  go_wp2_with fail
  refine (sorted_any hg hm (by omega)).mono ?_
  rintro e w2 ⟨v, s, rfl, hs, hss, hsm, hsl, hn4⟩
  have h2 := h1.new hn4
  have hn5 := hn3.trans hn4
  have hpr := held1_pred h2 o _ _ (hn4.blk hb1') (hn4.blk hb2')
  have hok : ∀ x ∈ s, okI x := fun x hx => ((hsm x).1 hx).1
  have hres : (s.filter fun x => !(max (ownerP O x) 0 != o)) = heldP O o := by
    refine sorted_ext (hss.filter _) (heldP_sorted O o) fun x => ?_
    rw [List.mem_filter]
    have hx : ∀ x, okI x → ((get l x).isSome = true ↔ 0 ≤ ownerP O x) := by
      intro x hx
      rw [hgt x hx]
      unfold cellAt
      by_cases h3 : 0 ≤ ownerP O x
      · rw [if_pos h3]; simp [h3]
      · rw [if_neg h3]; simp [h3]
    constructor
    · rintro ⟨h3, h4⟩
      obtain ⟨h5, h6⟩ := (hsm x).1 h3
      have h7 := (hx x h5).1 h6
      have h8 : ownerP O x = o := by
        have : max (ownerP O x) 0 = o := by simpa using h4
        omega
      exact (mem_heldP (by omega)).2 h8
    · intro h3
      have h4 := heldP_range h3
      have ho : 0 ≤ o := by
        rcases Int.lt_or_le o 0 with h5 | h5
        · unfold heldP at h3
          rw [if_pos h5] at h3
          cases h3
        · exact h5
      have h5 := (mem_heldP ho).1 h3
      have hxo : okI x := WalkArith.wf_i64 (by omega)
      refine ⟨(hsm x).2 ⟨hxo, (hx x hxo).2 (by omega)⟩, ?_⟩
      have : max (ownerP O x) 0 = o := by omega
      simp [this]
  have HRES := Lib.hid hres
  have HPR := Lib.hid hpr
  have HOK := Lib.hid hok
  have hs2 := hn4.size
  have hs1 := hn3.size
  clear hres hpr hok hsm hgt hss
  obtain ⟨A, N0, C, rfl⟩ := own_shape hs
  have hs' : Own (intE .i64) 3 w1.heap.size w2 (.slice A N0 C) s := hs
  have hpr1 : IsPredI w1 38 #[.pointer (some ⟨w.heap.size, 0, none⟩), .pointer (some ⟨w.heap.size + 1, 0, none⟩)] (fun k => max (ownerP O k) 0 != o) := held1_pred h1 o _ _ hb1' hb2'
  have HPR1 := Lib.hid hpr1
  clear hpr1
  go_wp2_with fail
  refine (idelete_any 38 #[.pointer (some ⟨w.heap.size, 0, none⟩), .pointer (some ⟨w.heap.size + 1, 0, none⟩)] _ (enters _ _ _ Try.func38 (by kernel_rfl) rfl) _ s w1 _ HPR1.out hn4 hs HOK.out (by omega)).mono ?_
  rintro e w3 ⟨o3, rfl, ho3, hf3⟩
  rw [HRES.out] at ho3
  go_wp2
  go_ret
  exact ⟨_, rfl, ho3.mono hs1, New.two hn5 hf3 fun i hi => by have := (hs.block hi).1; omega⟩

end Go.Proofs.Ytflalhciohdahaa
