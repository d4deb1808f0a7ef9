/- A part of the proof: LockHeld, LockAcq, LockRel, Task3. -/
import Derived.Test.YtliimglbbiebiaaGreatDoorGTopFullAX
import Derived.Test.YtliimglbbiebiaaGreatDoorGTopFullAW

section
/- The table of locks: Held. -/
namespace Go.Proofs.YtliimglbbiebiaaGreatDoor
open Go.RowKit Go.Maps

theorem sortsA (m : Nat) : AnyZI.SortsIn Tryz.prog sortedA_ren Fence.wide m :=
  ⟨fun blk off cap ss W hH hblk hsz => callsIn_wide.2 (AnyM.slices_Sort_int sortA blk off cap ss W hH hblk hsz),
   fun p cap W => callsIn_wide.2 (AnyM.slices_Sort_int_none sortA p cap W)⟩

theorem keys_any (mb : Option Nat) (w : World) : Calls Tryz.prog 212 #[.map mb] w fun e w' => e = .returned (.func (.func 287) #[] #[.pointer (some ⟨w.heap.size, 0, none⟩)]) ∧ w' = w.alloc (.cells #[.map mb] 113) :=
  (callsIn_wide (n := 5)).1 (AnyZI.keys_in keysA Fence.wide 5 trivial rfl mb w)

/-- Collected, sorted: the map's keys, ascending. -/
theorem sorted_any {w : World} {g bm : Nat} {l : List (Int × Value)} (hg : Blk w g 113 #[.map (some bm)]) (hm : HasMap iKeys w bm l) (hl : l.length ≤ 1000000) :
    Calls Tryz.prog 211 #[.func (.func 287) #[] #[.pointer (some ⟨g, 0, none⟩)]] w fun e w' => ∃ v s, e = .returned v ∧ Own (intE .i64) 3 w.heap.size w' v s ∧ s.Pairwise (· < ·) ∧ (∀ x, x ∈ s ↔ okI x ∧ (get l x).isSome) ∧ s.length ≤ l.length ∧ New w w' := by
  obtain ⟨D, h1, h2, h3⟩ := hm.own
  have hgl := hg.lt
  have hseq : SeqGives Fence.wide 2 Tryz.prog 287 #[.pointer (some ⟨g, 0, none⟩)] encZ (fun ss => ss.Perm (Go.intKeys D)) (Maps.size D) w :=
    AnyZI.keys_gives (ρ := keysA_ren) { keysA with } Fence.wide _ trivial rfl (by omega) g bm _ D _ hgl (hg.cell 0) h1
  have cS := AnyZI.sorted_in sortedA Fence.wide 5 trivial trivial trivial trivial rfl (by omega) (sortsA _) (enters_of Tryz.func286 (by kernel_rfl) rfl) 287 #[.pointer (some ⟨g, 0, none⟩)] trivial (enters_of Tryz.func287 (by kernel_rfl) rfl) _ (Maps.size D) (by rw [h2]; unfold maxLen; omega) (by rw [h2]; omega) w hseq
  refine ((callsIn_wide (n := 5)).1 cS).mono ?_
  rintro e w' ⟨v, ss, rfl, hperm, hrow, _, hb⟩
  obtain ⟨es, hD, hpw, _⟩ := h1.entries iKeys.law
  obtain ⟨es', hD', hko⟩ := h1.keysOf
  obtain rfl : es = es' := by rw [hD] at hD'; simpa using hD'
  have hks : ∀ p ∈ es, ∃ x : Int, p.1 = .int .i64 x ∧ okI x := fun p hp => by
    obtain ⟨v, hv⟩ := hko p hp
    obtain ⟨x, _, hx, hw⟩ := Maps.keyOf_i64 Tryz.underlying3 hv
    exact ⟨x, hx, hw⟩
  have hnd : (Go.intKeys D).Nodup := by
    subst hD
    show (es.map fun p => Go.intOf p.1).Nodup
    refine List.pairwise_map.2 (hpw.imp_of_mem fun {p q} hp' hq' hne e => hne ?_)
    obtain ⟨a, ha, _⟩ := hks p hp'
    obtain ⟨b, hb, _⟩ := hks q hq'
    rw [ha, hb] at e ⊢
    exact congrArg _ e
  have hmem : ∀ x, x ∈ Go.intKeys D ↔ okI x ∧ (get l x).isSome := by
    intro x
    have hh : ∀ x, okI x → (Maps.has D (.int .i64 x) = (get l x).isSome) := fun x hx => has_of (h3 x hx)
    subst hD
    show x ∈ es.map (fun p => Go.intOf p.1) ↔ _
    rw [List.mem_map]
    constructor
    · rintro ⟨p, hp, rfl⟩
      obtain ⟨a, ha, hw⟩ := hks p hp
      have e1 : Go.intOf p.1 = a := by rw [ha]; rfl
      rw [e1]
      refine ⟨hw, ?_⟩
      rw [← hh a hw, has_eq, List.any_eq_true]
      exact ⟨p, hp, by rw [ha]; simp [Lit.sameKey]⟩
    · rintro ⟨hw, hs⟩
      rw [← hh x hw, has_eq, List.any_eq_true] at hs
      obtain ⟨p, hp, hq⟩ := hs
      obtain ⟨a, ha, _⟩ := hks p hp
      refine ⟨p, hp, ?_⟩
      rw [ha] at hq ⊢
      simpa [Lit.sameKey, Go.intOf] using hq
  have hsp : (ss.mergeSort (fun x y => decide (x ≤ y))).Perm (Go.intKeys D) := (List.mergeSort_perm ss _).trans hperm
  have hlen : ss.length ≤ l.length := by
    have e1 := hperm.length_eq
    have e2 : (Go.intKeys D).length = es.length := by subst hD; exact List.length_map _
    have e3 : es.length = l.length := by rw [← h2]; subst hD; rfl
    omega
  refine ⟨v, ss.mergeSort (fun x y => decide (x ≤ y)), rfl, ?_, ?_, fun x => ?_, ?_, New.of_below hb⟩
  · unfold Own
    rw [intE_cells, List.length_mergeSort]
    exact hrow
  · have hs := List.pairwise_mergeSort (le := fun x y : Int => decide (x ≤ y)) (fun a b c h1 h2 => by simp only [decide_eq_true_eq] at *; omega) (fun a b => by simp only [Bool.or_eq_true, decide_eq_true_eq]; omega) ss
    have hn : (ss.mergeSort (fun x y => decide (x ≤ y))).Nodup := hsp.nodup_iff.2 hnd
    exact (hs.and hn).imp fun {a b} h => by have h4 := h.1; have h5 := h.2; simp only [decide_eq_true_eq] at h4; omega
  · rw [hsp.mem_iff]
    exact hmem x
  · rw [List.length_mergeSort]
    exact hlen

theorem held1_pred {w : World} {b bm : Nat} {O : List Int} {N : Int} (h : Tab w b bm O N) (o : Int) (gt go : Nat) (ht : Blk w gt 68 #[.pointer (some ⟨b, 0, none⟩)]) (ho : Blk w go 3 #[.int .i64 o]) :
    IsPredI w 213 #[.pointer (some ⟨gt, 0, none⟩), .pointer (some ⟨go, 0, none⟩)] (fun k => max (ownerP O k) 0 != o) := by
  intro W k hk hn
  have hW := h.new hn
  have c0 : W.cell? ⟨gt, 0, none⟩ = some (.pointer (some ⟨b, 0, none⟩)) := (hn.blk ht).cell 0
  have c1 : W.cell? ⟨go, 0, none⟩ = some (.int .i64 o) := (hn.blk ho).cell 0
  have c2 : W.cell? ⟨b, 1, none⟩ = some (.map (some bm)) := hW.blk.cell 1
  have hlk := fun n => (hW.new ((New.refl W).drewN n)).look0 hk
  have hlk0 := hlk 0
  show Calls Tryz.prog 213 #[.int .i64 k, .pointer (some ⟨gt, 0, none⟩), .pointer (some ⟨go, 0, none⟩)] W fun e w' => e = .returned (.bool (max (ownerP O k) 0 != o)) ∧ New W w'
  clear hW h ht ho hn hk hlk0
  generalize max (ownerP O k) 0 = x at *
  go_enter Tryz.func213, Tryz.ntmps213
  go_wp2
  go_quiet (fail)
  go_wp2
  go_ret
  exact ⟨rfl, (New.refl _).drewN _⟩

set_option maxHeartbeats 1600000 in
theorem lheld_any {w : World} {b bm : Nat} {O : List Int} {N : Int} (h : Tab w b bm O N) (o : Int) :
    Calls Tryz.prog 154 #[.pointer (some ⟨b, 0, none⟩), .int .i64 o] w fun e w' => ∃ v, e = .returned v ∧ Own (intE .i64) 3 w.heap.size w' v (heldP O o) ∧ New w w' := by
  have hmf : ∀ (fn : Fn) (first cap : Array Value) (w : World), (Instr.makeFunc fn first cap).run Tryz.prog w = .ok (.func fn first cap) w := fun _ _ _ _ => rfl
  have hlt := h.blk.lt
  have hb1 : Blk ((w.alloc (.cells #[.pointer (some ⟨b, 0, none⟩)] 68)).alloc (.cells #[.int .i64 o] 3)) w.heap.size 68 #[.pointer (some ⟨b, 0, none⟩)] := (Blk.new _ _ _).alloc _
  have hb2 : Blk ((w.alloc (.cells #[.pointer (some ⟨b, 0, none⟩)] 68)).alloc (.cells #[.int .i64 o] 3)) (w.heap.size + 1) 3 #[.int .i64 o] := Blk.new1 _ _ _ _
  have hn2 : New w ((w.alloc (.cells #[.pointer (some ⟨b, 0, none⟩)] 68)).alloc (.cells #[.int .i64 o] 3)) := ((New.refl w).alloc _).alloc _
  have c1 : w.cell? ⟨b, 1, none⟩ = some (.map (some bm)) := h.blk.cell 1
  have hn2s := hn2.size
  have hsz : ((w.alloc (.cells #[.pointer (some ⟨b, 0, none⟩)] 68)).alloc (.cells #[.int .i64 o] 3)).heap.size = w.heap.size + 2 := by simp
  go_enter Tryz.func154, Tryz.ntmps154
  go_wp2_with fail
  refine (keys_any _ _).mono ?_
  rintro e w1 ⟨rfl, hw1⟩
  rw [hsz]
  clear hn2s
  have hg : Blk w1 (w.heap.size + 2) 113 #[.map (some bm)] := by rw [hw1, ← hsz]; exact Blk.new _ _ _
  have hn3 : New w w1 := by rw [hw1]; exact hn2.alloc _
  have hb1' : Blk w1 w.heap.size 68 #[.pointer (some ⟨b, 0, none⟩)] := by rw [hw1]; exact hb1.alloc _
  have hb2' : Blk w1 (w.heap.size + 1) 3 #[.int .i64 o] := by rw [hw1]; exact hb2.alloc _
  clear hw1
  have h1 := h.new hn3
  obtain ⟨l, hm, hll, hgt⟩ := h1.map
  have hOl := h.len
  have hNN := h.hi
  go_wp2_with fail
  refine (sorted_any hg hm (by omega)).mono ?_
  rintro e w2 ⟨v, s, rfl, hs, hss, hsm, hsl, hn4⟩
  have h2 := h1.new hn4
  have hn5 := hn3.trans hn4
  have hpr := held1_pred h2 o _ _ (hn4.blk hb1') (hn4.blk hb2')
  have hok : ∀ x ∈ s, okI x := fun x hx => ((hsm x).1 hx).1
  have hres : (s.filter fun x => !(max (ownerP O x) 0 != o)) = heldP O o := by
    refine sorted_ext (hss.filter _) (heldP_sorted O o) fun x => ?_
    rw [List.mem_filter]
    have hx : ∀ x, okI x → ((get l x).isSome = true ↔ 0 ≤ ownerP O x) := by
      intro x hx
      rw [hgt x hx]
      unfold cellAt
      by_cases h3 : 0 ≤ ownerP O x
      · rw [if_pos h3]; simp [h3]
      · rw [if_neg h3]; simp [h3]
    constructor
    · rintro ⟨h3, h4⟩
      obtain ⟨h5, h6⟩ := (hsm x).1 h3
      have h7 := (hx x h5).1 h6
      have h8 : ownerP O x = o := by
        have : max (ownerP O x) 0 = o := by simpa using h4
        omega
      exact (mem_heldP (by omega)).2 h8
    · intro h3
      have h4 := heldP_range h3
      have ho : 0 ≤ o := by
        rcases Int.lt_or_le o 0 with h5 | h5
        · unfold heldP at h3
          rw [if_pos h5] at h3
          cases h3
        · exact h5
      have h5 := (mem_heldP ho).1 h3
      have hxo : okI x := WalkArith.wf_i64 (by omega)
      refine ⟨(hsm x).2 ⟨hxo, (hx x hxo).2 (by omega)⟩, ?_⟩
      have : max (ownerP O x) 0 = o := by omega
      simp [this]
  have HRES := Lib.hid hres
  have HPR := Lib.hid hpr
  have HOK := Lib.hid hok
  have hs2 := hn4.size
  have hs1 := hn3.size
  clear hres hpr hok hsm hgt hss
  obtain ⟨A, N0, C, rfl⟩ := own_shape hs
  have hs' : Own (intE .i64) 3 w1.heap.size w2 (.slice A N0 C) s := hs
  have hpr1 : IsPredI w1 213 #[.pointer (some ⟨w.heap.size, 0, none⟩), .pointer (some ⟨w.heap.size + 1, 0, none⟩)] (fun k => max (ownerP O k) 0 != o) := held1_pred h1 o _ _ hb1' hb2'
  have HPR1 := Lib.hid hpr1
  clear hpr1
  go_wp2_with fail
  refine (idelete_any 213 #[.pointer (some ⟨w.heap.size, 0, none⟩), .pointer (some ⟨w.heap.size + 1, 0, none⟩)] _ (enters _ _ _ Tryz.func213 (by kernel_rfl) rfl) _ s w1 _ HPR1.out hn4 hs HOK.out (by omega)).mono ?_
  rintro e w3 ⟨o3, rfl, ho3, hf3⟩
  rw [HRES.out] at ho3
  go_wp2
  go_ret
  exact ⟨_, rfl, ho3.mono hs1, New.two hn5 hf3 fun i hi => by have := (hs.block hi).1; omega⟩

end Go.Proofs.YtliimglbbiebiaaGreatDoor
end

section
/- The table of locks: Acquire. -/
namespace Go.Proofs.YtliimglbbiebiaaGreatDoor
open Go.RowKit

theorem acq1_pred {w : World} (k : Int) (g : Nat) (hg : Blk w g 3 #[.int .i64 k]) : IsPredI w 215 #[.pointer (some ⟨g, 0, none⟩)] (fun x => decide (k < x)) := by
  intro W x _ hn
  have c0 : W.cell? ⟨g, 0, none⟩ = some (.int .i64 k) := (hn.blk hg).cell 0
  show Calls Tryz.prog 215 #[.int .i64 x, .pointer (some ⟨g, 0, none⟩)] W fun e w' => e = .returned (.bool (decide (k < x))) ∧ New W w'
  go_enter Tryz.func215, Tryz.ntmps215
  go_wp2
  go_ret
  exact ⟨rfl, New.refl _⟩

/-- What stands in the world behind the first part of Acquire: the lock's box. -/
abbrev acqW (w : World) (k : Int) : World := w.alloc (.cells #[.int .i64 k] 3)

set_option maxRecDepth 100000 in
set_option maxHeartbeats 1600000 in
theorem lacq_range {w : World} {b bm : Nat} {O : List Int} {N : Int} (h : Tab w b bm O N) (o k : Int) (hk : okI k) (hc : o < 0 ∨ k < 0 ∨ (O.length : Int) ≤ k) :
    Calls Tryz.prog 161 #[.pointer (some ⟨b, 0, none⟩), .int .i64 o, .int .i64 k] w fun e w' => e = .returned (.int .i64 2) ∧ New w w' := by
  have hmf : ∀ (fn : Fn) (first cap : Array Value) (w : World), (Instr.makeFunc fn first cap).run Tryz.prog w = .ok (.func fn first cap) w := fun _ _ _ _ => rfl
  have hlt := h.blk.lt
  have hn1 : New w (acqW w k) := (New.refl w).alloc _
  have h1 := h.new hn1
  have hlk := fun n => (h1.new ((New.refl _).drewN n)).look hk
  have c0 : w.cell? ⟨b, 0, none⟩ = some (.int .i64 O.length) := h.blk.cell 0
  have c1 : w.cell? ⟨b, 1, none⟩ = some (.map (some bm)) := h.blk.cell 1
  generalize decide (0 ≤ ownerP O k) = q at *
  generalize max (ownerP O k) 0 = x at *
  by_cases ho : o < 0
  · clear hc
    go_enter Tryz.func161, Tryz.ntmps161
    go_wp2
    go_quiet (fail)
    go_wp2
    go_quiet (fail)
    go_wp2
    go_ret
    first | exact ⟨rfl, (hn1.drewN _).drewN _⟩ | exact ⟨rfl, hn1.drewN _⟩
  · have ho' : decide (o < 0) = false := decide_eq_false ho
    by_cases hk0 : k < 0
    · clear hc ho
      go_enter Tryz.func161, Tryz.ntmps161
      go_wp2
      go_quiet (fail)
      go_wp2
      go_quiet (fail)
      go_wp2
      go_ret
      first | exact ⟨rfl, (hn1.drewN _).drewN _⟩ | exact ⟨rfl, hn1.drewN _⟩
    · have hk' : decide (k < 0) = false := decide_eq_false hk0
      have hc' : (O.length : Int) ≤ k := by omega
      have hd' : decide ((O.length : Int) ≤ k) = true := decide_eq_true hc'
      clear hc ho hk0
      go_enter Tryz.func161, Tryz.ntmps161
      go_wp2
      go_quiet (fail)
      go_wp2
      go_quiet (fail)
      go_wp2
      go_ret
      first | exact ⟨rfl, (hn1.drewN _).drewN _⟩ | exact ⟨rfl, hn1.drewN _⟩

set_option maxRecDepth 100000 in
set_option maxHeartbeats 1600000 in
theorem lacq_dup {w : World} {b bm : Nat} {O : List Int} {N : Int} (h : Tab w b bm O N) (o k : Int) (hk : okI k) (_ho : 0 ≤ o) (hk0 : 0 ≤ k) (hk1 : k < O.length) (hc : ownerP O k = o) :
    Calls Tryz.prog 161 #[.pointer (some ⟨b, 0, none⟩), .int .i64 o, .int .i64 k] w fun e w' => e = .returned (.int .i64 8) ∧ New w w' := by
  have hmf : ∀ (fn : Fn) (first cap : Array Value) (w : World), (Instr.makeFunc fn first cap).run Tryz.prog w = .ok (.func fn first cap) w := fun _ _ _ _ => rfl
  have hlt := h.blk.lt
  have hn1 : New w (acqW w k) := (New.refl w).alloc _
  have h1 := h.new hn1
  have hlk := fun n => (h1.new ((New.refl _).drewN n)).look hk
  rw [hc, show max o 0 = o by omega, decide_eq_true _ho] at hlk
  have c0 : w.cell? ⟨b, 0, none⟩ = some (.int .i64 O.length) := h.blk.cell 0
  have c1 : w.cell? ⟨b, 1, none⟩ = some (.map (some bm)) := h.blk.cell 1
  have ho' : decide (o < 0) = false := decide_eq_false (by omega)
  have hk' : decide (k < 0) = false := decide_eq_false (by omega)
  have hd' : decide ((O.length : Int) ≤ k) = false := decide_eq_false (by omega)
  clear hc
  go_enter Tryz.func161, Tryz.ntmps161
  go_wp2
  go_quiet (fail)
  go_wp2
  go_quiet (fail)
  go_wp2
  go_ret
  first | exact ⟨rfl, (hn1.drewN _).drewN _⟩ | exact ⟨rfl, hn1.drewN _⟩

/-- Not the owner's: the switch comes to its third case. -/
theorem not_owner {O : List Int} {o k : Int} (hc : ownerP O k ≠ o) : (decide (0 ≤ ownerP O k) && (max (ownerP O k) 0 == o)) = false := by
  by_cases h : 0 ≤ ownerP O k
  · rw [show max (ownerP O k) 0 = ownerP O k by omega]
    simp [hc]
  · simp [h]

set_option maxRecDepth 100000 in
set_option maxHeartbeats 3200000 in
theorem lacq_past {w : World} {b bm : Nat} {O : List Int} {N : Int} (h : Tab w b bm O N) (o k : Int) (hk : okI k) (ho : 0 ≤ o) (hk0 : 0 ≤ k) (hk1 : k < O.length) (hc : ownerP O k ≠ o)
    (hd : (heldP O o).any (fun x => decide (k < x)) = true ∨ 0 ≤ ownerP O k) :
    Calls Tryz.prog 161 #[.pointer (some ⟨b, 0, none⟩), .int .i64 o, .int .i64 k] w fun e w' => e = .returned (.int .i64 (acqP O o k)) ∧ New w w' := by
  have hmf : ∀ (fn : Fn) (first cap : Array Value) (w : World), (Instr.makeFunc fn first cap).run Tryz.prog w = .ok (.func fn first cap) w := fun _ _ _ _ => rfl
  have hlt := h.blk.lt
  have hn1 : New w (acqW w k) := (New.refl w).alloc _
  have hbox : Blk (acqW w k) w.heap.size 3 #[.int .i64 k] := Blk.new _ _ _
  have h1 := h.new hn1
  have hlk := fun n => (h1.new ((New.refl _).drewN n)).look hk
  have hp : acqP O o k = if (heldP O o).any (fun x => decide (k < x)) then 10 else if 0 ≤ ownerP O k then 9 else 0 := by
    unfold acqP
    rw [if_neg (by omega), if_neg hc]
  rw [hp]
  have c0 : w.cell? ⟨b, 0, none⟩ = some (.int .i64 O.length) := h.blk.cell 0
  have c1 : w.cell? ⟨b, 1, none⟩ = some (.map (some bm)) := h.blk.cell 1
  have ho' : decide (o < 0) = false := decide_eq_false (by omega)
  have hk' : decide (k < 0) = false := decide_eq_false (by omega)
  have hd' : decide ((O.length : Int) ≤ k) = false := decide_eq_false (by omega)
  have hno := not_owner (k := k) hc
  obtain ⟨q, hq⟩ : ∃ q, decide (0 ≤ ownerP O k) = q := ⟨_, rfl⟩
  have hq' : (if 0 ≤ ownerP O k then 9 else 0) = (if q then 9 else 0) := by rw [← hq]; by_cases h3 : 0 ≤ ownerP O k <;> simp [h3]
  rw [hq']
  rw [hq] at hlk hno
  have hq2 : (heldP O o).any (fun x => decide (k < x)) = true ∨ q = true := by rw [← hq, decide_eq_true_iff]; exact hd
  generalize max (ownerP O k) 0 = x at *
  have H1 := Lib.hid h1
  have HQ2 := Lib.hid hq2
  have hOl := h.len
  obtain ⟨cc, hcc⟩ : ∃ cc, cc = (if (heldP O o).any (fun x => decide (k < x)) then 10 else if q then 9 else 0) := ⟨_, rfl⟩
  rw [← hcc]
  have HCC := Lib.hid hcc
  clear hc hp hq hq' hd hq2 h1 hcc
  cases q
  all_goals
    try rw [Bool.false_and] at hno
    try rw [Bool.true_and] at hno
    go_enter Tryz.func161, Tryz.ntmps161
    go_wp2
    go_quiet (fail)
    go_wp2
    go_quiet (fail)
    go_wp2_with fail
    refine (lheld_any (H1.out.new ((New.refl _).drewN _)) o).mono ?_
    rintro e w2 ⟨v, rfl, hv, hn2⟩
    have hn12 := (hn1.drewN _).trans hn2
    have hpr := acq1_pred k w.heap.size (hn2.blk (hbox.drewN _))
    have HPR := Lib.hid hpr
    have hhl := heldP_len O o
    have hok : ∀ x ∈ heldP O o, okI x := fun x hx => WalkArith.wf_i64 (by have := heldP_range hx; omega)
    have HOK := Lib.hid hok
    clear hpr hok
    obtain ⟨A, N0, C, rfl⟩ := own_shape hv
    go_wp2_with fail
    refine (icontains_any 215 #[.pointer (some ⟨w.heap.size, 0, none⟩)] _ (enters _ _ _ Tryz.func215 (by kernel_rfl) rfl) _ _ w2 HPR.out hv.rd HOK.out (by omega)).mono ?_
    have hq2 := HQ2.out
    obtain ⟨r, hr⟩ : ∃ r, (heldP O o).any (fun x => decide (k < x)) = r := ⟨_, rfl⟩
    have HR := Lib.hid hr
    rw [hr] at hq2
    rw [hr]
    clear hr HQ2
    rintro e w3 ⟨rfl, hn3⟩
    have hcc := HCC.out
    rw [HR.out] at hcc
    rcases hq2 with rfl | hq2
    · obtain rfl : cc = 10 := hcc
      go_wp2
      go_ret
      exact ⟨rfl, hn12.trans hn3⟩
    · first
        | (cases hq2; done)
        | (clear hq2
           cases r
           · obtain rfl : cc = 9 := hcc
             go_wp2
             go_ret
             exact ⟨rfl, hn12.trans hn3⟩
           · obtain rfl : cc = 10 := hcc
             go_wp2
             go_ret
             exact ⟨rfl, hn12.trans hn3⟩)

theorem acqO_in {O : List Int} {o k : Int} (h : acqP O o k = 0) : acqO O o k = O.set k.toNat o := by unfold acqO; rw [if_pos h]

/-- The table behind a store of an owner, and a count. -/
theorem Tab.store {w w' : World} {b bm : Nat} {O : List Int} {N : Int} (h : Tab w b bm O N) (hN : N < 10000) {o k : Int} (hok : okI o) (h0 : acqP O o k = 0) {l : List (Int × Value)} (hl : HasMap iKeys w bm l) (hll : (l.length : Int) ≤ N) (hg : ∀ k, okI k → get l k = cellAt O k)
    (hm : HasMap iKeys w' bm (put l k (.int .i64 o))) (hb : Blk w' b 120 #[.int .i64 O.length, .map (some bm), .int .i64 (N + 1)]) : Tab w' b bm (acqO O o k) (N + 1) := by
  have hz := acqP_zero h0
  refine ⟨?_, ⟨_, hm, ?_, fun j hj => ?_⟩, acqO_ows h.ows o k, ?_, ?_, by omega⟩
  · rw [acqO_len]; exact hb
  · have h1 := del_length hl.nd k
    have h2 : (put l k (.int .i64 o)).length = (del l k).length + 1 := by unfold put; simp
    rw [h2]
    split at h1 <;> omega
  · unfold cellAt
    rw [ownerP_acqO]
    by_cases hjk : j = k
    · have e : (if acqP O o k = 0 ∧ j = k then o else ownerP O j) = o := if_pos ⟨h0, hjk⟩
      rw [e, hjk, get_put_same, if_pos hz.1]
    · have e : (if acqP O o k = 0 ∧ j = k then o else ownerP O j) = ownerP O j := if_neg (fun h => hjk h.2)
      rw [e, get_put_other _ _ hjk, hg j hj]
      rfl
  · intro x hx
    rw [acqO_in h0] at hx
    rcases List.mem_or_eq_of_mem_set hx with h1 | h1
    · exact h.ok x h1
    · rw [h1]; exact hok
  · rw [acqO_len]; exact h.len

set_option maxHeartbeats 400000 in
theorem add_any {w : World} {b : Nat} {N : Int} (e2 : w.cell? ⟨b, 2, none⟩ = some (.int .i64 N)) (g2 : w.frozen? ⟨b, 2, none⟩ = false) (h0 : 0 ≤ N) (h1 : N < 10000) :
    Calls Tryz.prog 217 #[.pointer (some ⟨b, 2, none⟩), .int .i64 1] w fun e w' => e = .returned (.int .i64 (N + 1)) ∧ w' = w.setCell ⟨b, 2, none⟩ (.int .i64 (N + 1)) := by
  have hw : IntKind.i64.wrap (N + 1) = N + 1 := IntWalk.i64_in _ (by omega)
  have hadd := run_call_add (P := Tryz.prog) Tryz.func288 (by kernel_rfl) (by kernel_rfl) (by kernel_rfl) .i64 (by kernel_rfl) (y := 1) (s := N + 1) e2 g2 (by simp [Op.intArith, hw])
  clear hw
  go_enter Tryz.func217, Tryz.ntmps217
  go_wp2
  go_ret
  exact ⟨rfl, rfl⟩

set_option maxRecDepth 100000 in
set_option maxHeartbeats 3200000 in
theorem lacq_ok {w : World} {b bm : Nat} {O : List Int} {N : Int} (h : Tab w b bm O N) (hN : N < 10000) (o k : Int) (hoo : okI o) (hk : okI k) (h0 : acqP O o k = 0) :
    Calls Tryz.prog 161 #[.pointer (some ⟨b, 0, none⟩), .int .i64 o, .int .i64 k] w fun e w' => e = .returned (.int .i64 0) ∧ Tab w' b bm (acqO O o k) (N + 1) ∧ TFr b bm w w' := by
  have hmf : ∀ (fn : Fn) (first cap : Array Value) (w : World), (Instr.makeFunc fn first cap).run Tryz.prog w = .ok (.func fn first cap) w := fun _ _ _ _ => rfl
  have hz := acqP_zero h0
  have hlt := h.blk.lt
  have hltm := h.ltm
  have hn1 : New w (acqW w k) := (New.refl w).alloc _
  have hbox : Blk (acqW w k) w.heap.size 3 #[.int .i64 k] := Blk.new _ _ _
  have h1 := h.new hn1
  have hlk := fun n => (h1.new ((New.refl _).drewN n)).look hk
  rw [show max (ownerP O k) 0 = 0 by omega, decide_eq_false (by omega : ¬ 0 ≤ ownerP O k)] at hlk
  have hany : (heldP O o).any (fun x => decide (k < x)) = false := List.any_eq_false.2 fun x hx => by have := hz.2.2.2.2 x hx; simp; omega
  have HANY := Lib.hid hany
  have H0 := Lib.hid h0
  have c0 : w.cell? ⟨b, 0, none⟩ = some (.int .i64 O.length) := h.blk.cell 0
  have c1 : w.cell? ⟨b, 1, none⟩ = some (.map (some bm)) := h.blk.cell 1
  have ho' : decide (o < 0) = false := decide_eq_false (by omega)
  have hk' : decide (k < 0) = false := decide_eq_false (by omega)
  have hd' : decide ((O.length : Int) ≤ k) = false := decide_eq_false (by omega)
  have H1 := Lib.hid h1
  have hOl := h.len
  have hN0 := h.lo
  clear h1 hany h0 hz
  go_enter Tryz.func161, Tryz.ntmps161
  go_wp2
  go_quiet (fail)
  go_wp2
  go_quiet (fail)
  go_wp2_with fail
  refine (lheld_any (H1.out.new ((New.refl _).drewN _)) o).mono ?_
  rintro e w2 ⟨v, rfl, hv, hn2⟩
  have hn12 := (hn1.drewN _).trans hn2
  have hbox2 := hn2.blk (hbox.drewN _)
  have hpr := acq1_pred k w.heap.size hbox2
  have HPR := Lib.hid hpr
  have hhl := heldP_len O o
  have hok : ∀ x ∈ heldP O o, okI x := fun x hx => WalkArith.wf_i64 (by have := heldP_range hx; omega)
  have HOK := Lib.hid hok
  clear hpr hok
  obtain ⟨A, N0, C, rfl⟩ := own_shape hv
  go_wp2_with fail
  refine (icontains_any 215 #[.pointer (some ⟨w.heap.size, 0, none⟩)] _ (enters _ _ _ Tryz.func215 (by kernel_rfl) rfl) _ _ w2 HPR.out hv.rd HOK.out (by omega)).mono ?_
  rw [HANY.out]
  rintro e w3 ⟨rfl, hn3⟩
  have hn13 := hn12.trans hn3
  have hs13 := hn13.size
  have h3 := h.new hn13
  obtain ⟨l, hm, hll, hg⟩ := h3.map
  have d1 : w3.drew.cell? ⟨b, 1, none⟩ = some (.map (some bm)) := h3.blk.cell 1
  have d2 : w3.drew.cell? ⟨w.heap.size, 0, none⟩ = some (.int .i64 k) := (hn3.blk hbox2).cell 0
  have HG := Lib.hid hg
  clear hg hv hbox2 hbox
  go_wp2_with fail
  refine wp_tail 6 (by kernel_rfl) (by kernel_rfl) ?_
  simp only [List.take_succ_cons, List.take_zero, List.drop_succ_cons, List.drop_zero]
  repeat still_step
  refine wpStill_nil ?_
  go_wp2_with (at_mapUpdate; refine wpList_put (E := iKeys) rfl _ _ _ 113 3 rfl Tryz.underlying113 hm.drew (by unfold maxLen; omega) k hk (.int .i64 o) rfl rfl rfl ?_; intro w4 hm4 ho4)
  have hb4 := ho4.blk (h3.blk.drew) h.ne
  have e2 : w4.cell? ⟨b, 2, none⟩ = some (.int .i64 N) := hb4.cell 2
  have g2 : w4.frozen? ⟨b, 2, none⟩ = false := hb4.frozen 2
  refine (add_any e2 g2 hN0 hN).mono ?_
  rintro e w5 ⟨rfl, hw5⟩
  have ho5 : One b w4 w5 := by rw [hw5]; exact (One.refl _ _).set _ _
  have hb5 : Blk w5 b 120 #[.int .i64 O.length, .map (some bm), .int .i64 (N + 1)] := by rw [hw5]; exact hb4.set_ 2 _
  have hm5 := hm4.fr ho5 (fun e => h.ne e.symm)
  clear hw5
  go_wp2
  go_ret
  refine ⟨rfl, h3.store hN hoo H0.out hm hll HG.out hm5 hb5, ?_⟩
  have hf1 : TFr b bm w w3.drew := (New.to hn13).drew
  exact (hf1.trans' ho4 fun i hi e => Or.inr e).trans' ho5 fun i hi e => Or.inl e

end Go.Proofs.YtliimglbbiebiaaGreatDoor
end

section
/- The table of locks: Acquire whole, Release. -/
namespace Go.Proofs.YtliimglbbiebiaaGreatDoor
open Go.RowKit

theorem acqP_code (O : List Int) (o k : Int) : acqP O o k = 0 ∨ (acqP O o k = 2 ∧ (o < 0 ∨ k < 0 ∨ (O.length : Int) ≤ k)) ∨ (acqP O o k = 8 ∧ 0 ≤ o ∧ 0 ≤ k ∧ k < O.length ∧ ownerP O k = o) ∨
    (acqP O o k ≠ 0 ∧ 0 ≤ o ∧ 0 ≤ k ∧ k < O.length ∧ ownerP O k ≠ o ∧ ((heldP O o).any (fun x => decide (k < x)) = true ∨ 0 ≤ ownerP O k)) := by
  unfold acqP
  by_cases h1 : o < 0 ∨ k < 0 ∨ (O.length : Int) ≤ k
  · rw [if_pos h1]
    exact .inr (.inl ⟨rfl, h1⟩)
  · rw [if_neg h1]
    by_cases h2 : ownerP O k = o
    · rw [if_pos h2]
      exact .inr (.inr (.inl ⟨rfl, by omega, by omega, by omega, h2⟩))
    · rw [if_neg h2]
      by_cases h3 : (heldP O o).any (fun x => decide (k < x)) = true
      · rw [if_pos h3]
        exact .inr (.inr (.inr ⟨by omega, by omega, by omega, by omega, h2, .inl h3⟩))
      · rw [if_neg h3]
        by_cases h4 : 0 ≤ ownerP O k
        · rw [if_pos h4]
          exact .inr (.inr (.inr ⟨by omega, by omega, by omega, by omega, h2, .inr h4⟩))
        · rw [if_neg h4]
          exact .inl rfl

theorem lacquire_any {w : World} {b bm : Nat} {O : List Int} {N : Int} (h : Tab w b bm O N) (hN : N < 10000) (o k : Int) (hoo : okI o) (hk : okI k) :
    Calls Tryz.prog 161 #[.pointer (some ⟨b, 0, none⟩), .int .i64 o, .int .i64 k] w fun e w' => e = .returned (.int .i64 (acqP O o k)) ∧ Tab w' b bm (acqO O o k) (N + acqN O o k) ∧ TFr b bm w w' := by
  have fail : acqP O o k ≠ 0 → ∀ {c : Nat}, acqP O o k = c → Calls Tryz.prog 161 #[.pointer (some ⟨b, 0, none⟩), .int .i64 o, .int .i64 k] w (fun e w' => e = .returned (.int .i64 c) ∧ New w w') →
      Calls Tryz.prog 161 #[.pointer (some ⟨b, 0, none⟩), .int .i64 o, .int .i64 k] w fun e w' => e = .returned (.int .i64 (acqP O o k)) ∧ Tab w' b bm (acqO O o k) (N + acqN O o k) ∧ TFr b bm w w' := by
    intro hne c hc H
    refine H.mono ?_
    rintro e w' ⟨rfl, hn⟩
    have h1 : acqO O o k = O := by unfold acqO; rw [if_neg hne]
    have h2 : acqN O o k = 0 := by unfold acqN; rw [if_neg hne]
    rw [h1, h2, hc]
    exact ⟨rfl, by simpa using h.new hn, New.to hn⟩
  rcases acqP_code O o k with h0 | ⟨h0, hr⟩ | ⟨h0, h1, h2, h3, h4⟩ | ⟨h0, h1, h2, h3, h4, h5⟩
  · refine (lacq_ok h hN o k hoo hk h0).mono ?_
    rintro e w' ⟨rfl, ht, hf⟩
    have h2 : acqN O o k = 1 := by unfold acqN; rw [if_pos h0]
    rw [h2, h0]
    exact ⟨rfl, ht, hf⟩
  · exact fail (by omega) h0 (lacq_range h o k hk hr)
  · exact fail (by omega) h0 (lacq_dup h o k hk h1 h2 h3 h4)
  · exact fail h0 rfl (lacq_past h o k hk h1 h2 h3 h4 h5)

theorem cellAt_relO {O : List Int} (hO : Ows O) (o k : Int) : cellAt (relO O o) k = if k ∈ heldP O o then none else cellAt O k := by
  unfold cellAt
  rw [ownerP_relO]
  by_cases ho : 0 ≤ o
  · by_cases h1 : ownerP O k = o
    · rw [if_pos ((mem_heldP ho).2 h1), if_pos h1, if_neg (by omega)]
    · rw [if_neg (fun h => h1 ((mem_heldP ho).1 h)), if_neg h1]
  · have hne : k ∉ heldP O o := by unfold heldP; rw [if_pos (by omega)]; simp
    rw [if_neg hne]
    have hlo := ownerP_lo hO k
    by_cases h1 : ownerP O k = o
    · rw [if_pos h1, if_neg (by omega), if_neg (by omega)]
    · rw [if_neg h1]

set_option maxHeartbeats 1600000 in
theorem lrelease_any {w : World} {b bm : Nat} {O : List Int} {N : Int} (h : Tab w b bm O N) (o : Int) :
    Calls Tryz.prog 158 #[.pointer (some ⟨b, 0, none⟩), .int .i64 o] w fun e w' => e = .returned (.int .i64 (heldP O o).length) ∧ Tab w' b bm (relO O o) N ∧ TFr b bm w w' := by
  have hhl := heldP_len O o
  have hOl := h.len
  have hlt := h.blk.lt
  go_enter Tryz.func158, Tryz.ntmps158
  go_wp2_with fail
  refine (lheld_any h o).mono ?_
  rintro e w1 ⟨v, rfl, hv, hn1⟩
  have h1 := h.new hn1
  obtain ⟨l, hm, hll, hg⟩ := h1.map
  have hokh : ∀ x ∈ heldP O o, okI x := fun x hx => WalkArith.wf_i64 (by have := heldP_range hx; omega)
  have HOK := Lib.hid hokh
  have HRO := Lib.hid (cellAt_relO h.ows o)
  generalize hH : heldP O o = H at *
  have HV := Lib.hid hv
  have hs1 := hn1.size
  have hbk := h1.blk
  have HEQ := Lib.hid hH
  clear hokh hH
  obtain ⟨A, c, rfl, hc, hA⟩ := hv.rd.ints
  have HA := Lib.hid hA
  clear hA hv
  go_wp2
  go_loopw [13] (fun vi wr => ∃ (k : Nat) (L : List (Int × Value)), k ≤ H.length ∧ vi = .int .i64 k ∧ HasMap iKeys wr bm L ∧ (L.length : Int) ≤ N ∧ Hid (∀ j, okI j → get L j = if j ∈ H.take k then none else cellAt O j) ∧ One bm w1 wr) (fun vi _ => H.length - (intOf vi).toNat)
  case atStart => exact ⟨0, l, Nat.zero_le _, rfl, hm, hll, (fun j hj => by rw [List.take_zero, if_neg (by simp)]; exact hg j hj), One.refl _ _⟩
  case round =>
    obtain ⟨k, L, hk, rfl, hL, hLl, HG, hO⟩ := hrel
    clear hg hm hll
    have hbr : Blk wr b 120 #[.int .i64 O.length, .map (some bm), .int .i64 N] := hO.blk hbk h.ne
    by_cases hkl : k < H.length
    · obtain ⟨x, hx⟩ : ∃ x, H[k]? = some x := ⟨_, List.getElem?_eq_getElem hkl⟩
      obtain ⟨g, off, rfl, hcell⟩ := HA.out (by rintro rfl; simp at hkl)
      have hgb : w.heap.size ≤ g := (HV.out.block rfl).1
      have hbml := h.ltm
      have c0 : wr.cell? ⟨g, off + k, none⟩ = some (.int .i64 x) := Fr.cell hO (hcell k _ hx) (by show ¬ g = bm; omega)
      have c1 : wr.cell? ⟨b, 1, none⟩ = some (.map (some bm)) := hbr.cell 1
      have hxo := HOK.out x (List.mem_of_getElem? hx)
      have HX := Lib.hid hx
      clear hcell hx
      go_wp2_with (at_delete; refine wpList_del (E := iKeys) rfl _ _ 113 3 rfl Tryz.underlying113 hL x hxo rfl rfl ?_; intro w2 hL2 ho2)
      go_roundw
      case rel =>
        refine ⟨k + 1, del L x, by omega, by go_num, hL2, ?_, ?_, hO.trans ho2⟩
        · have := List.length_filter_le (fun p : Int × Value => decide (p.1 ≠ x)) L
          show ((del L x).length : Int) ≤ N
          unfold del
          omega
        · intro j hj
          rw [take_snocI HX.out]
          by_cases hjx : j = x
          · subst hjx
            rw [get_del_same, if_pos (by simp)]
          · rw [get_del_other L hjx, HG.out j hj]
            by_cases hm : j ∈ H.take k
            · rw [if_pos hm, if_pos (List.mem_append_left _ hm)]
            · rw [if_neg hm, if_neg (by rw [List.mem_append]; rintro (h1 | h1); exact hm h1; exact hjx (List.mem_singleton.1 h1))]
      case measure => simp [intOf]; omega
    · obtain rfl : k = H.length := by omega
      have hfin : Tab wr b bm (relO O o) N := by
        refine ⟨by rw [relO_len]; exact hbr, ⟨L, hL, hLl, fun j hj => ?_⟩, relO_ows h.ows o, ?_, by rw [relO_len]; exact h.len, h.hi⟩
        · have := HG.out j hj
          rw [List.take_length] at this
          rw [HRO.out j]
          exact this
        · intro x hx
          unfold relO at hx
          obtain ⟨y, hy, rfl⟩ := List.mem_map.1 hx
          split
          · decide
          · exact h.ok y hy
      have HF := Lib.hid hfin
      clear hfin
      go_wp2
      go_ret
      exact ⟨by rw [HEQ.out]; rfl, HF.out, (New.to hn1).trans' hO fun i hi e => Or.inr e⟩

end Go.Proofs.YtliimglbbiebiaaGreatDoor
end

section
/- task: Wants. -/
namespace Go.Proofs.YtliimglbbiebiaaGreatDoor
open Go.RowKit

theorem int_info : (Tryz.prog.info? 3).map (fun i => (i.zero, i.size, i.bytes)) = some (some (.int .i64 0), 1, 8) := by kernel_rfl
set_option maxHeartbeats 1600000 in
theorem iclone_any (v : Value) (l : List Int) (w : World) (hv : Rd (intE .i64) w v l) (hl : l.length ≤ 100000) :
    Calls Tryz.prog 32 #[v] w fun e w' => ∃ o, e = .returned o ∧ Own (intE .i64) 3 w.heap.size w' o l ∧ New w w' := by
  obtain ⟨i0, hi, hz0, hz1, hz2⟩ := info_parts int_info
  have h0 := Own.iempty .i64 3 w.heap.size w (Nat.le_refl _)
  have HV := Lib.hid hv
  obtain ⟨A, c, rfl, hc, hcells⟩ := hv
  have hq := fun n => Lib.run_eql_slice_nil (P := Tryz.prog) w 31 _ A n c 0 0 Tryz.underlying31
  cases A with
  | none =>
    have hn : l = [] := by
      cases l with
      | nil => rfl
      | cons x l => obtain ⟨b, off, h, _⟩ := hcells (by simp); cases h
    clear hcells
    subst hn
    simp only [Option.isNone_none] at hq
    go_enter Tryz.func32, Tryz.ntmps32
    go_wp2
    go_ret
    exact ⟨_, rfl, Own.nil _ _ _ _, New.refl _⟩
  | some ad =>
    obtain ⟨b, off, sp⟩ := ad
    clear hcells
    simp only [Option.isNone_some] at hq
    go_enter Tryz.func32, Tryz.ntmps32
    go_wp2_with (at_builtin; refine wpList_append (E := intE .i64) rfl _ _ _ rfl Tryz.underlying31 hi hz0 hz1 hz2 rfl h0 rfl (HV.out.alloc _) rfl (by unfold maxLen; simp; omega) (by simp; omega) (by simp) ?_; intro v1 w1 hv1 hf1 hl1)
    have hn1 : New w w1 := New.append ((New.refl w).alloc _) h0 hf1
    rw [List.nil_append] at hv1
    go_ret
    exact ⟨_, rfl, hv1, hn1⟩

set_option maxHeartbeats 800000 in
theorem wants1_any (G : Nat) (u : Value) (l : List Int) (k : Int) (w : World) (hG : Blk w G 31 #[u]) (hu : Rd (intE .i64) w u l) (hl : l.length ≤ 100000) :
    Calls Tryz.prog 156 #[.int .i64 k, .pointer (some ⟨G, 0, none⟩)] w fun e w' => e = .returned (.bool (l.contains k)) ∧ w' = w := by
  have c0 : w.cell? ⟨G, 0, none⟩ = some u := hG.cell 0
  have hcall : Calls Tryz.prog 157 #[u, .int .i64 k] w fun e w' => e = .returned (.bool (l.contains k)) ∧ w' = w := by
    obtain ⟨A, c, rfl, hc, hcell⟩ := hu.ints
    by_cases hne : l = []
    · subst hne
      exact Tryz.slices_Contains_int_empty A c k w
    · obtain ⟨b, off, rfl, hcl⟩ := hcell hne
      have h := Tryz.slices_Contains_int b off l.length c l k w (Nat.le_refl _) (by omega) (fun j hj => by
        have := hcl j l[j] (List.getElem?_eq_getElem hj)
        rw [this]
        simp [List.getD, hj])
      rw [List.take_length] at h
      exact h
  obtain ⟨A, c, rfl, _⟩ := hu
  go_enter Tryz.func156, Tryz.ntmps156
  go_wp2_with (go_at_call 157; refine hcall.mono ?_; rintro e w1 ⟨rfl, rfl⟩)
  go_ret
  exact ⟨by simp, rfl⟩

section
variable {w : World} {t : Nat} {bz : Bool} {c : Cmd} {ms : ByteArray} {nd : Value} {x sp lk : Nat} {a b : Int} {ah out : Value}

set_option maxRecDepth 100000 in
set_option maxHeartbeats 3200000 in
theorem wants_any {bm : Nat} {O : List Int} {N : Int} (h : Tsk w t bz c ms nd x sp lk a b ah out) (bx : Value) (sid : Int) (pv : Option Addr) (dn : Bool) (hs : Ses w x bx sid pv dn) (hT : Tab w lk bm O N) (l : List Int) (hnd : Rd (intE .i64) w nd l) (hok : ∀ k ∈ l, okI k) (hl : l.length ≤ 100000) :
    Calls Tryz.prog 111 #[.pointer (some ⟨t, 0, none⟩)] w fun e w' => ∃ v, e = .returned v ∧ Own (intE .i64) 3 w.heap.size w' v (l.filter fun k => !(heldP O sid).contains k) ∧ New w w' := by
  have hhl : (heldP O sid).length ≤ 100000 := Nat.le_trans (heldP_len O sid) (Nat.le_trans hT.len (by decide))
  have c14 : w.cell? ⟨t, 14, none⟩ = some (.pointer (some ⟨lk, 0, none⟩)) := h.cell 14
  have c12 : w.cell? ⟨t, 12, none⟩ = some (.pointer (some ⟨x, 0, none⟩)) := h.cell 12
  have htl := h.lt
  have HTT := Lib.hid hT
  have HOK := Lib.hid hok
  clear hT hok
  go_enter Tryz.func111, Tryz.ntmps111
  go_wp2_with fail
  go_region_held3 (fun W => W.cell? ⟨t, 14, none⟩ = some (.pointer (some ⟨lk, 0, none⟩)) ∧ W.cell? ⟨t, 12, none⟩ = some (.pointer (some ⟨x, 0, none⟩))) (first | go_keep | (refine ⟨?_, ?_⟩ <;> assumption) | exact S0 _) ((first
    | (go_at_call 114
       refine (xid_any x bx sid pv dn _ (Fr.blk (S := fun _ => False) (by repeat' first | exact New.refl _ | apply Fr.alloc | apply Fr.drewN | apply Fr.drew) hs (fun h => h))).mono ?_
       rintro e w1 ⟨rfl, rfl⟩)
    | (go_at_call 154
       refine (lheld_any (HTT.out.new (by repeat' first | exact New.refl _ | apply Fr.alloc | apply Fr.drewN | apply Fr.drew)) sid).mono ?_
       rintro e w2 ⟨v2, rfl, hv2, m2⟩
       have n2 : New w w2 := Fr.trans (by repeat' first | exact New.refl _ | apply Fr.alloc | apply Fr.drewN | apply Fr.drew) m2
       have h2 := n2.blk h
       have q14 : w2.cell? ⟨t, 14, none⟩ = some (.pointer (some ⟨lk, 0, none⟩)) := h2.cell 14
       have q12 : w2.cell? ⟨t, 12, none⟩ = some (.pointer (some ⟨x, 0, none⟩)) := h2.cell 12
       have O2 := Lib.hid (hv2.mono (b' := w.heap.size) (by first | (rw [World.size_drew]; exact Nat.le_refl _) | (show w.heap.size ≤ (w.alloc _).heap.size; rw [World.size_alloc]; omega) | exact Nat.le_refl _))
       obtain ⟨vA, vC, rfl, _⟩ := hv2.form
       have S0 : ∀ u, (w2.setCell ⟨w.heap.size, 0, none⟩ u).cell? ⟨t, 14, none⟩ = some (.pointer (some ⟨lk, 0, none⟩)) ∧ (w2.setCell ⟨w.heap.size, 0, none⟩ u).cell? ⟨t, 12, none⟩ = some (.pointer (some ⟨x, 0, none⟩)) := fun u => ⟨Fr.cell ((One.refl w.heap.size w2).set 0 u) q14 (by show ¬ t = w.heap.size; omega), Fr.cell ((One.refl w.heap.size w2).set 0 u) q12 (by show ¬ t = w.heap.size; omega)⟩
       try (have y := m2.blk (Blk.new w.drew 31 #[.slice none 0 0]); simp only [World.size_drew] at y; have y0 : w2.cell? ⟨w.heap.size, 0, none⟩ = some (.slice none 0 0) := y.cell 0; have z0 : w2.frozen? ⟨w.heap.size, 0, none⟩ = false := y.frozen 0))
    | fail))
  all_goals
    first
    | (have bG : Blk (w2.setCell ⟨w.heap.size, 0, none⟩ (.slice vA (heldP O sid).length vC)) w.heap.size 31 #[.slice vA (heldP O sid).length vC] := y.set_ 0 _
       have n3 : New w (w2.setCell ⟨w.heap.size, 0, none⟩ (.slice vA (heldP O sid).length vC)) := New.one n2 ((One.refl w.heap.size w2).set 0 _) (Nat.le_refl _)
       have O3 := Lib.hid (O2.out.fr ((One.refl w.heap.size w2).set 0 (.slice vA (heldP O sid).length vC)) fun z hz e => O2.out.blk_ne y (by decide) (by have e : z = w.heap.size := e; rw [← e]; exact hz))
       generalize (w2.setCell ⟨w.heap.size, 0, none⟩ (.slice vA (heldP O sid).length vC)) = w3 at bG n3 O3 ⊢
       generalize w.heap.size = G at bG ⊢)
    | (have bG : Blk (w2.alloc (.cells #[.slice vA (heldP O sid).length vC] 31)) w2.heap.size 31 #[.slice vA (heldP O sid).length vC] := Blk.new _ _ _
       have n3 : New w (w2.alloc (.cells #[.slice vA (heldP O sid).length vC] 31)) := n2.alloc _
       have O3 := Lib.hid (O2.out.alloc (.cells #[.slice vA (heldP O sid).length vC] 31))
       generalize (w2.alloc (.cells #[.slice vA (heldP O sid).length vC] 31)) = w3 at bG n3 O3 ⊢
       generalize w2.heap.size = G at bG ⊢)
    have h3 := n3.blk h
    have c11 : w3.cell? ⟨t, 11, none⟩ = some nd := h3.cell 11
    have HND := Lib.hid (hnd.new n3)
    have hp : IsPredI w3 156 #[.pointer (some ⟨G, 0, none⟩)] (fun k => (heldP O sid).contains k) := fun W k _ hW => (wants1_any G _ (heldP O sid) k W (hW.blk bG) (O3.out.rd.new hW) hhl).mono fun e w' hw => ⟨hw.1, hw.2 ▸ New.refl _⟩
    have HP := Lib.hid hp
    clear hp h3 c14 c12 S0 q14 q12
    go_wp2_with fail
    refine (iclone_any nd l w3 HND.out hl).mono ?_
    rintro e w4 ⟨v4, rfl, hv4, m4⟩
    have hcall := idelete_any 156 #[.pointer (some ⟨G, 0, none⟩)] (fun k => (heldP O sid).contains k) (enters_of Tryz.func156 (by kernel_rfl) rfl) v4 l w3 w4 HP.out m4 hv4 HOK.out hl
    have hmf : ∀ (fn : Fn) (first cap : Array Value) (w : World), (Instr.makeFunc fn first cap).run Tryz.prog w = .ok (.func fn first cap) w := fun _ _ _ _ => rfl
    go_wp2_with fail
    refine hcall.mono ?_
    rintro e w5 ⟨v5, rfl, hv5, hf5⟩
    go_wp2
    go_ret
    exact ⟨v5, rfl, hv5.mono n3.size, Fr.trans' (n3.trans m4) hf5 fun i hi hh => by have := (hv4.block hh).1; have := n3.size; omega⟩
end
end Go.Proofs.YtliimglbbiebiaaGreatDoor
end

