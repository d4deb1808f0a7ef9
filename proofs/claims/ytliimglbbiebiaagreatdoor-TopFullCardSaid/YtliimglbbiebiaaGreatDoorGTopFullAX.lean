/- A part of the proof: LockP, IntSl, Lock, Lock2, LockShelf. -/
import Derived.Test.YtliimglbbiebiaaGreatDoorGTopFullAA
import Derived.Test.YtliimglbbiebiaaGreatDoorRows
import Derived.WalkKit
import Derived.WalkSpells
import Derived.WalkLawsBesides
import Derived.Deep.QuietTactic
import Derived.BigQuiet
import Derived.Lib.Hide
import Derived.Test.YtliimglbbiebiaaGreatDoorGTopFullAB
import Derived.Test.YtliimglbbiebiaaGreatDoorGTopFullAC
import Derived.Laws.LoneSync
import Derived.Shelf.SlGeneric
import Derived.Shelf.SlIterI.Nil
import Derived.Shelf.SortM.Plain
import Derived.Shelf.SortM.SortNone
import Derived.Test.YtliimglbbiebiaaGreatDoorProg

section
/- Locks as a list of owners, -1 for a free lock. Plain lemmas; of no program. -/
namespace Go.Proofs.YtliimglbbiebiaaGreatDoor

/-- The owner of a lock, -1 where there is none. -/
def ownerP (O : List Int) (k : Int) : Int := if 0 ≤ k then O.getD k.toNat (-1) else -1
/-- The locks of an owner, ascending. -/
def heldN (O : List Int) (o : Int) : List Nat := (List.range O.length).filter fun i => decide (O.getD i (-1) = o)
def heldP (O : List Int) (o : Int) : List Int := if o < 0 then [] else (heldN O o).map Int.ofNat
/-- The code of an acquiring. -/
def acqP (O : List Int) (o k : Int) : Nat :=
  if o < 0 ∨ k < 0 ∨ (O.length : Int) ≤ k then 2 else
  if ownerP O k = o then 8 else
  if (heldP O o).any (fun x => decide (k < x)) then 10 else
  if 0 ≤ ownerP O k then 9 else 0
/-- The owners behind an acquiring. -/
def acqO (O : List Int) (o k : Int) : List Int := if acqP O o k = 0 then O.set k.toNat o else O
/-- How many have been acquired by it. -/
def acqN (O : List Int) (o k : Int) : Nat := if acqP O o k = 0 then 1 else 0
/-- The owners behind a release. -/
def relO (O : List Int) (o : Int) : List Int := O.map fun x => if x = o then -1 else x
def freeP (O : List Int) : Bool := O.all fun x => decide (x < 0)
/-- Is a lock not the owner's? -/
def notMine (O : List Int) (o k : Int) : Bool := decide (ownerP O k < 0) || decide (ownerP O k ≠ o)
def blockedP (O : List Int) (o : Int) (ks : List Int) : Bool := match ks.find? (notMine O o) with | none => false | some k => decide (0 ≤ ownerP O k)

/-- Owners are from -1 on. -/
def Ows (O : List Int) : Prop := ∀ x ∈ O, -1 ≤ x

theorem ownerP_lo {O : List Int} (h : Ows O) (k : Int) : -1 ≤ ownerP O k := by
  unfold ownerP
  split
  · rw [List.getD_eq_getElem?_getD]
    cases hk : O[k.toNat]? with
    | none => simp
    | some x => simpa using h x (List.mem_of_getElem? hk)
  · exact Int.le_refl _
theorem ownerP_out {O : List Int} {k : Int} (h : k < 0 ∨ (O.length : Int) ≤ k) : ownerP O k = -1 := by
  unfold ownerP
  split
  · rw [List.getD_eq_getElem?_getD, List.getElem?_eq_none (by omega)]; rfl
  · rfl
theorem ownerP_nat (O : List Int) (i : Nat) : ownerP O i = O.getD i (-1) := by
  unfold ownerP
  rw [if_pos (by omega)]
  rfl
theorem ownerP_in {O : List Int} {k : Int} (h : 0 ≤ ownerP O k) : 0 ≤ k ∧ k < O.length := by
  by_cases h1 : k < 0 ∨ (O.length : Int) ≤ k
  · rw [ownerP_out h1] at h; omega
  · omega
theorem mem_heldN {O : List Int} {o : Int} {i : Nat} : i ∈ heldN O o ↔ i < O.length ∧ O.getD i (-1) = o := by
  unfold heldN
  rw [List.mem_filter]
  simp
theorem mem_heldP {O : List Int} {o k : Int} (ho : 0 ≤ o) : k ∈ heldP O o ↔ ownerP O k = o := by
  unfold heldP
  rw [if_neg (by omega), List.mem_map]
  constructor
  · rintro ⟨i, hi, rfl⟩
    rw [mem_heldN] at hi
    show ownerP O (i : Int) = o
    rw [ownerP_nat]; exact hi.2
  · intro h
    have hk := ownerP_in (O := O) (k := k) (by omega)
    refine ⟨k.toNat, mem_heldN.2 ⟨by omega, ?_⟩, by show ((k.toNat : Nat) : Int) = k; omega⟩
    unfold ownerP at h
    rwa [if_pos hk.1] at h
theorem heldN_sorted (O : List Int) (o : Int) : (heldN O o).Pairwise (· < ·) := List.Pairwise.filter _ List.pairwise_lt_range
theorem heldP_sorted (O : List Int) (o : Int) : (heldP O o).Pairwise (· < ·) := by
  unfold heldP
  split
  · exact List.Pairwise.nil
  · refine (heldN_sorted O o).map _ fun a b h => ?_
    show (a : Int) < (b : Int)
    omega
theorem heldP_len (O : List Int) (o : Int) : (heldP O o).length ≤ O.length := by
  unfold heldP
  split
  · simp
  · rw [List.length_map]
    unfold heldN
    have := List.length_filter_le (fun i => decide (O.getD i (-1) = o)) (List.range O.length)
    rwa [List.length_range] at this
theorem heldP_range {O : List Int} {o k : Int} (h : k ∈ heldP O o) : 0 ≤ k ∧ k < O.length := by
  by_cases ho : 0 ≤ o
  · have := (mem_heldP ho).1 h
    exact ownerP_in (by omega)
  · unfold heldP at h
    rw [if_pos (by omega)] at h
    cases h
/-- Two strictly ascending lists of the same members are one. -/
theorem sorted_ext {l m : List Int} (hl : l.Pairwise (· < ·)) (hm : m.Pairwise (· < ·)) (h : ∀ x, x ∈ l ↔ x ∈ m) : l = m := by
  have hp : l.Perm m := (List.perm_ext_iff_of_nodup (hl.imp fun h => by omega) (hm.imp fun h => by omega)).2 h
  exact hp.eq_of_pairwise (fun a b _ _ h1 h2 => by omega) hl hm
theorem getD_set_self {O : List Int} {i : Nat} (h : i < O.length) (x d : Int) : (O.set i x).getD i d = x := by
  rw [List.getD_eq_getElem?_getD, List.getElem?_set_self h]; rfl
theorem ownerP_set {O : List Int} {k : Int} (hk : 0 ≤ k) (hk2 : k < O.length) (o j : Int) : ownerP (O.set k.toNat o) j = if j = k then o else ownerP O j := by
  unfold ownerP
  split
  · by_cases hj : j = k
    · subst hj
      rw [if_pos rfl, getD_set_self (by omega)]
    · rw [if_neg hj, List.getD_eq_getElem?_getD, List.getElem?_set_ne (by omega), ← List.getD_eq_getElem?_getD]
  · rw [if_neg (by omega)]
theorem acqO_len (O : List Int) (o k : Int) : (acqO O o k).length = O.length := by
  unfold acqO
  split <;> simp
theorem acqP_zero {O : List Int} {o k : Int} (h : acqP O o k = 0) : 0 ≤ o ∧ 0 ≤ k ∧ k < O.length ∧ ownerP O k < 0 ∧ ∀ x ∈ heldP O o, x ≤ k := by
  unfold acqP at h
  split at h
  · cases h
  · split at h
    · cases h
    · split at h
      · cases h
      · split at h
        · cases h
        · rename_i h1 h2 h3 h4
          refine ⟨by omega, by omega, by omega, by omega, fun x hx => ?_⟩
          rcases Int.lt_or_le k x with h5 | h5
          · exact absurd (List.any_eq_true.2 ⟨x, hx, decide_eq_true h5⟩) h3
          · exact h5
theorem acqO_ows {O : List Int} (h : Ows O) (o k : Int) : Ows (acqO O o k) := by
  unfold acqO
  split
  · rename_i h0
    have := acqP_zero h0
    intro x hx
    rcases List.mem_or_eq_of_mem_set hx with h1 | h1
    · exact h x h1
    · omega
  · exact h
theorem ownerP_acqO (O : List Int) (o k j : Int) : ownerP (acqO O o k) j = if acqP O o k = 0 ∧ j = k then o else ownerP O j := by
  unfold acqO
  split
  · rename_i h0
    have := acqP_zero h0
    rw [ownerP_set this.2.1 this.2.2.1]
    by_cases hj : j = k
    · rw [if_pos hj, if_pos ⟨h0, hj⟩]
    · rw [if_neg hj, if_neg (fun h => hj h.2)]
  · rename_i h0
    rw [if_neg (fun h => h0 h.1)]
theorem relO_len (O : List Int) (o : Int) : (relO O o).length = O.length := by simp [relO]
theorem relO_ows {O : List Int} (h : Ows O) (o : Int) : Ows (relO O o) := by
  intro x hx
  unfold relO at hx
  obtain ⟨y, hy, rfl⟩ := List.mem_map.1 hx
  split
  · exact Int.le_refl _
  · exact h y hy
theorem ownerP_relO (O : List Int) (o j : Int) : ownerP (relO O o) j = if ownerP O j = o then -1 else ownerP O j := by
  unfold ownerP relO
  split
  · rw [List.getD_eq_getElem?_getD, List.getD_eq_getElem?_getD, List.getElem?_map]
    cases O[j.toNat]? with
    | none => simp
    | some x => simp
  · simp
theorem relO_neg {O : List Int} (h : Ows O) {o : Int} (ho : o < 0) : relO O o = O := by
  refine (List.map_congr_left (g := id) fun x hx => ?_).trans (List.map_id _)
  have := h x hx
  show (if x = o then -1 else x) = x
  split <;> omega
theorem freeP_iff {O : List Int} : freeP O = true ↔ ∀ k, ownerP O k < 0 := by
  unfold freeP
  rw [List.all_eq_true]
  constructor
  · intro h k
    unfold ownerP
    split
    · rw [List.getD_eq_getElem?_getD]
      cases hk : O[k.toNat]? with
      | none => simp
      | some x => simpa using h x (List.mem_of_getElem? hk)
    · omega
  · intro h x hx
    obtain ⟨i, hi⟩ := List.mem_iff_getElem?.1 hx
    have := h i
    rw [ownerP_nat, List.getD_eq_getElem?_getD, hi] at this
    simpa using this
end Go.Proofs.YtliimglbbiebiaaGreatDoor
end

section
/- The library's functions on []int: IndexFunc, ContainsFunc, DeleteFunc, Equal. -/
namespace Go.Proofs.YtliimglbbiebiaaGreatDoor
open Go.RowKit

abbrev okI (x : Int) : Prop := (Lit.int .i64 x).wf = true

/-- Function g, over what it has captured, is the predicate p, in every world in which all that lay in w lies unturned. -/
def IsPredI (w : World) (g : Nat) (lb : Array Value) (p : Int → Bool) : Prop :=
  ∀ (W : World) (x : Int), okI x → New w W → Calls Tryz.prog g (#[.int .i64 x] ++ lb) W fun e w' => e = .returned (.bool (p x)) ∧ New W w'

theorem entersI (f : Nat) (fn : Func) (c : Code) (hf : Tryz.prog.funcs[f]? = some fn) (hn : (fn.name == "runtime.NumGoroutine") = false) (hb : fn.body = some c) (args : Array Value) (w : World) : (callFunc f args).run Tryz.prog w = .ok (.enter f args) w := by
  have h1 : fn.name ≠ "runtime.NumGoroutine" := by simpa using hn
  simp [callFunc, hf, h1, hb]

/-- Where the first hit is. -/
def FirstAtI (p : Int → Bool) (l : List Int) (i : Int) : Prop := (i = -1 ∧ ∀ x ∈ l, p x = false) ∨ ∃ (k : Nat) (x : Int), i = k ∧ l[k]? = some x ∧ p x = true ∧ ∀ y ∈ l.take k, p y = false

set_option maxHeartbeats 1600000 in
theorem iindex_any (g : Nat) (lb : Array Value) (p : Int → Bool) (hE : ∀ args w, (callFunc g args).run Tryz.prog w = .ok (.enter g args) w) (v : Value) (l : List Int) (w : World) (hp : IsPredI w g lb p) (hv : Rd (intE .i64) w v l) (hok : ∀ x ∈ l, okI x) (hl : l.length ≤ 1000000) :
    Calls Tryz.prog 159 #[v, .func (.func g) #[] lb] w fun e w' => ∃ i : Int, e = .returned (.int .i64 i) ∧ FirstAtI p l i ∧ New w w' := by
  obtain ⟨A, c, rfl, hc, hcells⟩ := hv.ints
  have HC := Lib.hid hcells
  have HOK := Lib.hid hok
  clear hcells hok hv
  go_enter Tryz.func159, Tryz.ntmps159
  go_wp2
  go_loopw [8] (fun vi wr => ∃ k : Nat, k ≤ l.length ∧ vi = .int .i64 k ∧ Hid (∀ x, x ∈ l.take k → p x = false) ∧ New w wr) (fun vi _ => l.length - (intOf vi).toNat)
  case atStart => exact ⟨0, Nat.zero_le _, rfl, fun x hx => by simp at hx, New.refl _⟩
  case round =>
    obtain ⟨k, hk, rfl, HS, hnew⟩ := hrel
    by_cases hkl : k < l.length
    · obtain ⟨x, hx⟩ : ∃ x, l[k]? = some x := ⟨_, List.getElem?_eq_getElem hkl⟩
      obtain ⟨b, off, rfl, hcell⟩ := HC.out (by rintro rfl; simp at hkl)
      have c0 : wr.cell? ⟨b, off + k, none⟩ = some (.int .i64 x) := Fr.cell hnew (hcell k _ hx) id
      have hcall := hp _ x (HOK.out x (List.mem_of_getElem? hx)) hnew
      have HX := Lib.hid hx
      clear hcell hx
      cases hpx : p x
      all_goals
        rw [hpx] at hcall
        have HP := Lib.hid hpx
        have HCALL := Lib.hid hcall
        clear hpx hcall
        go_wp2_with fail
        refine HCALL.out.mono ?_
        rintro e w1 ⟨rfl, hn1⟩
        go_wp2
      · go_roundw
        case rel =>
          refine ⟨k + 1, by omega, by go_num, fun x hx => ?_, hnew.trans hn1⟩
          rw [take_snocI HX.out] at hx
          rcases List.mem_append.1 hx with hx | hx
          · exact HS.out x hx
          · rw [List.mem_singleton.1 hx]; exact HP.out
        case measure => simp [intOf]; omega
      · go_ret
        exact ⟨_, rfl, .inr ⟨k, _, rfl, HX.out, HP.out, HS.out⟩, hnew.trans hn1⟩
    · go_wp2
      go_ret
      refine ⟨_, rfl, .inl ⟨rfl, fun x hx => ?_⟩, hnew⟩
      exact HS.out x (by rw [List.take_of_length_le (by omega)]; exact hx)

theorem FirstAtI.any {p : Int → Bool} {l : List Int} {i : Int} (h : FirstAtI p l i) : decide (0 ≤ i) = l.any p := by
  rcases h with ⟨rfl, h⟩ | ⟨k, x, rfl, hx, hp, _⟩
  · have : l.any p = false := List.any_eq_false.2 fun x hx => by simp [h x hx]
    rw [this]; rfl
  · have : l.any p = true := List.any_eq_true.2 ⟨x, List.mem_of_getElem? hx, hp⟩
    rw [this]; simp

set_option maxHeartbeats 1600000 in
theorem icontains_any (g : Nat) (lb : Array Value) (p : Int → Bool) (hE : ∀ args w, (callFunc g args).run Tryz.prog w = .ok (.enter g args) w) (v : Value) (l : List Int) (w : World) (hp : IsPredI w g lb p) (hv : Rd (intE .i64) w v l) (hok : ∀ x ∈ l, okI x) (hl : l.length ≤ 1000000) :
    Calls Tryz.prog 216 #[v, .func (.func g) #[] lb] w fun e w' => e = .returned (.bool (l.any p)) ∧ New w w' := by
  have h := iindex_any g lb p hE v l w hp hv hok hl
  have H := Lib.hid h
  generalize hq : l.any p = q
  have HQ := Lib.hid hq
  clear h hp hv hE hq
  go_enter Tryz.func216, Tryz.ntmps216
  go_wp2_with fail
  refine H.out.mono ?_
  rintro e w1 ⟨i, rfl, hf, hn⟩
  have hi := hf.any.trans HQ.out
  clear hf
  cases q
  all_goals
    go_wp2
    go_ret
    exact ⟨rfl, hn⟩

set_option maxHeartbeats 3200000 in
/-- DeleteFunc over a row that is new since w0, where the predicate was made. -/
theorem idelete_any (g : Nat) (lb : Array Value) (p : Int → Bool) (hE : ∀ args w, (callFunc g args).run Tryz.prog w = .ok (.enter g args) w) (v : Value) (l : List Int) (w0 w : World) (hp : IsPredI w0 g lb p) (hn0 : New w0 w)
    (hv : Own (intE .i64) 3 w0.heap.size w v l) (hok : ∀ x ∈ l, okI x) (hl : l.length ≤ 100000) :
    Calls Tryz.prog 155 #[v, .func (.func g) #[] lb] w fun e w' => ∃ o, e = .returned o ∧ Own (intE .i64) 3 w0.heap.size w' o (l.filter fun x => !p x) ∧ Fr (fun k => v.ownBlock = some k) w w' := by
  have hzero : ∀ w, (zeroValue 3).run Tryz.prog w = .ok (.int .i64 0) w := fun w => by kernel_rfl
  have hp1 : IsPredI w g lb p := fun W x ho h => hp W x ho (hn0.trans h)
  have hidx := iindex_any g lb p hE v l w hp1 hv.rd hok (by omega)
  obtain ⟨A, c, rfl, hc⟩ := hv.form
  have HP0 := Lib.hid hp
  have HI := Lib.hid hidx
  have HOK := Lib.hid hok
  clear hp hp1 hidx hok
  obtain ⟨r, hr⟩ : ∃ r, r = l.filter fun x => !p x := ⟨_, rfl⟩
  rw [← hr]
  have HRE := Lib.hid hr
  clear hr
  go_enter Tryz.func155, Tryz.ntmps155
  go_wp2_with fail
  refine HI.out.mono ?_
  rintro e w1 ⟨i, rfl, hfirst, hn1⟩
  have hv1 := hv.new hn1
  rcases hfirst with ⟨rfl, hall⟩ | ⟨k, x, rfl, hx, hpx, hbef⟩
  · have hfl : (l.filter fun x => !p x) = l := List.filter_eq_self.2 fun x hx => by simp [hall x hx]
    have hr := HRE.out.trans hfl
    subst hr
    clear hfl hall HRE
    go_wp2
    go_ret
    exact ⟨_, rfl, hv1, hn1.mono fun _ _ h => h.elim⟩
  · have hkl : k < l.length := (List.getElem?_eq_some_iff.1 hx).1
    have hstart : l.take k = (l.take (k + 1)).filter fun x => !p x := by
      rw [take_snocI hx, List.filter_append, List.filter_eq_self.2 fun y hy => by simp [hbef y hy]]
      simp [hpx]
    have HSTART := Lib.hid hstart
    clear hx hpx hbef hstart HI
    obtain ⟨gg, rfl⟩ := hv1.some1 (by omega)
    have hn01 := hn0.trans hn1
    have hv1b : w0.heap.size ≤ gg := (hv1.block rfl).1
    obtain ⟨wo, rfl⟩ : ∃ wo : World, wo = w1 := ⟨_, rfl⟩
    have hkb : ((k : Int) == -1) = false := by simp
    go_wp2
    go_loopw [5, 6] (fun vi vj wr => ∃ (i j : Nat) (m : List Int), i < j ∧ j ≤ l.length ∧ vi = .int .i64 i ∧ vj = .int .i64 j ∧ m.length = l.length ∧ Hid (m.take i = (l.take j).filter fun x => !p x) ∧ Hid (∀ t, j ≤ t → m[t]? = l[t]?) ∧
      Own (intE .i64) 3 w0.heap.size wr (.slice (some ⟨gg, 0, none⟩) l.length c) m ∧ Fr (fun q => gg = q) wo wr) (fun _ vj _ => l.length - (intOf vj).toNat)
    case atStart => exact ⟨k, k + 1, l, by omega, by omega, rfl, by go_num, rfl, HSTART.out, fun _ _ => rfl, hv1, Fr.refl _ _⟩
    case round =>
      obtain ⟨i, j, m, hij, hjl, rfl, rfl, hm, HT, HR, ho, hf⟩ := hrel
      have hn0r : New w0 wr := Fr.trans' hn01 hf fun q hq hs => by omega
      clear hv1
      by_cases hjn : j < l.length
      · obtain ⟨x, hx⟩ : ∃ x, l[j]? = some x := ⟨_, List.getElem?_eq_getElem hjn⟩
        have hxm : m[j]? = some x := by rw [HR.out j (Nat.le_refl _)]; exact hx
        obtain ⟨y, hy⟩ : ∃ y, m[i]? = some y := ⟨_, List.getElem?_eq_getElem (by omega)⟩
        have hsn := take_snocI hx
        have c0 : wr.cell? ⟨gg, j, none⟩ = some (.int .i64 x) := ho.icell hxm
        have hcall := HP0.out wr x (HOK.out x (List.mem_of_getElem? hx)) hn0r
        have HSN := Lib.hid hsn
        have HY := Lib.hid hy
        clear hx hxm hsn hy
        cases hpx : p x
        · rw [hpx] at hcall
          have HPX := Lib.hid hpx
          have HCALL := Lib.hid hcall
          clear hpx hcall
          go_wp2_with fail
          refine HCALL.out.mono ?_
          rintro e w2 ⟨rfl, hn2⟩
          have ho2 := ho.new hn2
          have e0 : w2.cell? ⟨gg, i, none⟩ = some (.int .i64 y) := ho2.icell HY.out
          have f0 : w2.frozen? ⟨gg, i, none⟩ = false := ho2.ifrozen _
          have hil : i < m.length := by omega
          have hst := ho2.istored i x
          have HST := Lib.hid hst
          have hf2 : Fr (fun q => gg = q) wo w2 := hf.trans (hn2.mono fun _ _ h => h.elim)
          clear hst ho2 ho
          go_wp2
          go_roundw
          case rel =>
            refine ⟨i + 1, j + 1, m.set i x, by omega, by omega, by go_num, by go_num, by rw [List.length_set]; exact hm, ?_, ?_, HST.out, ?_⟩
            · show (m.set i x).take (i + 1) = _
              rw [HSN.out, List.filter_append, take_snocI (List.getElem?_set_self hil), List.take_set_of_le (Nat.le_refl _), HT.out]
              simp [HPX.out]
            · intro t ht
              rw [List.getElem?_set_ne (by omega)]
              exact HR.out t (by omega)
            · exact Fr.setCell (p := ⟨gg, _, none⟩) hf2 (fun _ => rfl) _
          case measure => simp [intOf]; omega
        · rw [hpx] at hcall
          have HPX := Lib.hid hpx
          have HCALL := Lib.hid hcall
          clear hpx hcall
          go_wp2_with fail
          refine HCALL.out.mono ?_
          rintro e w2 ⟨rfl, hn2⟩
          have ho2 := ho.new hn2
          have hf2 : Fr (fun q => gg = q) wo w2 := hf.trans (hn2.mono fun _ _ h => h.elim)
          clear ho
          go_wp2
          go_roundw
          case rel =>
            refine ⟨i, j + 1, m, by omega, by omega, rfl, by go_num, hm, ?_, fun t ht => HR.out t (by omega), ho2, hf2⟩
            show m.take i = _
            rw [HSN.out, List.filter_append, HT.out]
            simp [HPX.out]
          case measure => simp [intOf]; omega
      · obtain rfl : j = l.length := by omega
        have ht := HT.out
        rw [List.take_length] at ht
        have hr := HRE.out.trans ht.symm
        subst hr
        clear ht HRE
        have hz1 : ∀ u ∈ (Value.int .i64 0).cells.toList, u.oneCell' = true := by
          intro u hu
          have hu2 : u ∈ [Value.int .i64 0] := hu
          rw [List.mem_singleton.1 hu2]
          rfl
        obtain ⟨w3, hr3, ho3, hf3⟩ := run_clear_own (P := Tryz.prog) (E := intE .i64) (ty := 0) Tryz.underlying31 hzero rfl hz1 ho i (c - i) (by omega)
        have hr3' : (Builtin.clear_ #[31] 0 #[.slice (some ⟨gg, i, none⟩) (l.length - i) (c - i)]).run Tryz.prog wr = .ok (.tuple #[]) w3 := by
          have e1 : i * (intE .i64).sz = i := Nat.mul_one i
          rw [e1] at hr3
          exact hr3
        clear hr3
        go_wp2
        go_ret
        have hf13 : Fr (fun q => gg = q) wo w3 := hf.trans (hf3.mono fun _ _ h => h.symm)
        exact ⟨_, rfl, ho3, (hn1.mono fun _ _ h => h.elim).trans (hf13.mono fun _ _ h => by rw [h]; rfl)⟩

set_option maxHeartbeats 1600000 in
theorem iequal_any (v u : Value) (l m : List Int) (w : World) (hv : Rd (intE .i64) w v l) (hu : Rd (intE .i64) w u m) (hl : l.length ≤ 1000000) (hm : m.length ≤ 1000000) :
    Calls Tryz.prog 12 #[v, u] w fun e w' => e = .returned (.bool (decide (l = m))) ∧ New w w' := by
  obtain ⟨A, c, rfl, hc, hA⟩ := hv.ints
  obtain ⟨B, d, rfl, hd, hB⟩ := hu.ints
  have HA := Lib.hid hA
  have HB := Lib.hid hB
  clear hA hB hv hu
  by_cases hlm : l.length = m.length
  · generalize hq : decide (l = m) = q
    have HQ := Lib.hid hq
    have HLM := Lib.hid hlm
    rw [← hlm]
    rw [← hlm] at hm
    clear hq hlm
    go_enter Tryz.func12, Tryz.ntmps12
    go_wp2
    go_loopw [13] (fun vi wr => ∃ k : Nat, k ≤ l.length ∧ vi = .int .i64 k ∧ Hid (∀ i, i < k → l[i]? = m[i]?) ∧ New w wr) (fun vi _ => l.length - (intOf vi).toNat)
    case atStart => exact ⟨0, Nat.zero_le _, rfl, fun i hi => by omega, New.refl _⟩
    case round =>
      obtain ⟨k, hk, rfl, HS, hnew⟩ := hrel
      by_cases hkl : k < l.length
      · obtain ⟨x, hx⟩ : ∃ x, l[k]? = some x := ⟨_, List.getElem?_eq_getElem hkl⟩
        obtain ⟨y, hy⟩ : ∃ y, m[k]? = some y := ⟨_, List.getElem?_eq_getElem (by have := HLM.out; omega)⟩
        obtain ⟨b, off, rfl, hcell⟩ := HA.out (by rintro rfl; simp at hkl)
        obtain ⟨b', off', rfl, hcell'⟩ := HB.out (by rintro rfl; simp at hy)
        have c0 : wr.cell? ⟨b, off + k, none⟩ = some (.int .i64 x) := Fr.cell hnew (hcell k _ hx) id
        have d0 : wr.cell? ⟨b', off' + k, none⟩ = some (.int .i64 y) := Fr.cell hnew (hcell' k _ hy) id
        have HX := Lib.hid hx
        have HY := Lib.hid hy
        clear hcell hcell' hx hy
        cases hxy : (x != y)
        all_goals
          have HXY := Lib.hid hxy
          go_wp2_with fail
          go_quiet (fail)
          go_wp2
        · go_roundw
          case rel =>
            refine ⟨k + 1, by omega, by go_num, fun i hi => ?_, hnew.drewN _⟩
            rcases Nat.lt_or_ge i k with h | h
            · exact HS.out i h
            · obtain rfl : i = k := by omega
              have : x = y := by simpa using HXY.out
              rw [HX.out, HY.out, this]
          case measure => simp [intOf]; omega
        · go_ret
          have hne : q = false := by
            rw [← HQ.out]
            refine decide_eq_false fun e => ?_
            have h1 := HX.out
            rw [e, HY.out] at h1
            injection h1 with h1
            have h2 : x ≠ y := by simpa using HXY.out
            exact h2 h1.symm
          rw [hne]
          exact ⟨rfl, hnew.drewN _⟩
      · go_wp2
        go_ret
        have he : q = true := by
          rw [← HQ.out]
          refine decide_eq_true (List.ext_getElem? fun i => ?_)
          rcases Nat.lt_or_ge i k with h | h
          · exact HS.out i h
          · rw [List.getElem?_eq_none (by omega), List.getElem?_eq_none (by have := HLM.out; omega)]
        rw [he]
        exact ⟨rfl, hnew⟩
  · have hne : decide (l = m) = false := decide_eq_false fun e => hlm (by rw [e])
    rw [hne]
    have hb : ((l.length : Int) != (m.length : Int)) = true := by simp; omega
    clear hne hlm
    go_enter Tryz.func12, Tryz.ntmps12
    go_wp2
    go_ret
    exact ⟨rfl, New.refl _⟩

end Go.Proofs.YtliimglbbiebiaaGreatDoor
end

section
/- The table of locks: the contracts of its methods but Held. -/
namespace Go.Proofs.YtliimglbbiebiaaGreatDoor
open Go.RowKit

theorem lzeroInt (w : World) : (zeroValue 3).run Tryz.prog w = .ok (.int .i64 0) w := by kernel_rfl

/-- What the map has at a lock. -/
def cellAt (O : List Int) (k : Int) : Option Value := if 0 ≤ ownerP O k then some (.int .i64 (ownerP O k)) else none

/-- Block b is a table, bm its map: its locks have the owners O, N acquirings have been. -/
structure Tab (w : World) (b bm : Nat) (O : List Int) (N : Int) : Prop where
  blk : Blk w b 120 #[.int .i64 O.length, .map (some bm), .int .i64 N]
  map : ∃ l, HasMap iKeys w bm l ∧ (l.length : Int) ≤ N ∧ ∀ k, okI k → get l k = cellAt O k
  ows : Ows O
  ok : ∀ x ∈ O, okI x
  len : O.length ≤ 65536
  hi : N ≤ 10000

/-- What an operation may turn. -/
abbrev TFr (b bm : Nat) (w w' : World) : Prop := Fr (fun k => k = b ∨ k = bm) w w'

theorem Tab.fr {S : Nat → Prop} {w w' : World} {b bm : Nat} {O : List Int} {N : Int} (h : Tab w b bm O N) (hf : Fr S w w') (hb : ¬ S b) (hm : ¬ S bm) : Tab w' b bm O N := by
  obtain ⟨l, h1, h2⟩ := h.map
  exact ⟨Fr.blk hf h.blk hb, ⟨l, h1.fr hf hm, h2⟩, h.ows, h.ok, h.len, h.hi⟩
theorem Tab.new {w w' : World} {b bm : Nat} {O : List Int} {N : Int} (h : Tab w b bm O N) (hf : New w w') : Tab w' b bm O N := h.fr hf id id
theorem Tab.lt {w : World} {b bm : Nat} {O : List Int} {N : Int} (h : Tab w b bm O N) : b < w.heap.size := h.blk.lt
theorem Tab.ltm {w : World} {b bm : Nat} {O : List Int} {N : Int} (h : Tab w b bm O N) : bm < w.heap.size := by
  obtain ⟨l, h1, _⟩ := h.map
  exact h1.lt
theorem Tab.ne {w : World} {b bm : Nat} {O : List Int} {N : Int} (h : Tab w b bm O N) : b ≠ bm := by
  rintro rfl
  obtain ⟨l, h1, _⟩ := h.map
  obtain ⟨D, ⟨es, clock, h3, _⟩, _⟩ := h1.own
  have := h.blk
  unfold Blk at this
  rw [this] at h3
  cases h3

theorem Tab.lo {w : World} {b bm : Nat} {O : List Int} {N : Int} (h : Tab w b bm O N) : 0 ≤ N := by
  obtain ⟨l, _, h1, _⟩ := h.map
  omega

theorem rep_owner (n : Nat) (k : Int) : ownerP (List.replicate n (-1)) k = -1 := by
  unfold ownerP
  split
  · rw [List.getD_eq_getElem?_getD]
    cases h : (List.replicate n (-1 : Int))[k.toNat]? with
    | none => rfl
    | some x => simpa using (List.mem_replicate.1 (List.mem_of_getElem? h)).2
  · rfl

set_option maxHeartbeats 400000 in
theorem lnew_any (n : Int) (h0 : 0 ≤ n) (h1 : n ≤ 65536) (w : World) :
    Calls Tryz.prog 26 #[.int .i64 n] w fun e w' => ∃ b bm, e = .returned (.pointer (some ⟨b, 0, none⟩)) ∧ Tab w' b bm (List.replicate n.toNat (-1)) 0 ∧ w.heap.size ≤ b ∧ w.heap.size ≤ bm ∧ New w w' := by
  have hmm := @run_makeMap Tryz.prog
  go_enter Tryz.func26, Tryz.ntmps26
  go_wp2
  go_ret
  obtain ⟨m, rfl⟩ : ∃ m : Nat, n = m := ⟨n.toNat, by omega⟩
  have hlen : (List.replicate m (-1 : Int)).length = m := List.length_replicate
  have hb : Blk ((w.alloc (.map #[] 0)).alloc (.cells #[.int .i64 m, .map (some w.heap.size), .int .i64 0] 120)) (w.heap.size + 1) 120 #[.int .i64 m, .map (some w.heap.size), .int .i64 0] := Blk.new1 _ _ _ _
  refine ⟨w.heap.size + 1, w.heap.size, rfl, ⟨?_, ⟨[], (HasMap.made iKeys w).alloc _, Int.le_refl _, fun k _ => ?_⟩, ?_, ?_, ?_, by omega⟩, by omega, Nat.le_refl _, ((New.refl w).alloc _).alloc _⟩
  · show Blk _ _ _ #[.int .i64 ((List.replicate m (-1 : Int)).length : Int), _, _]
    rw [hlen]
    exact hb
  · show none = cellAt (List.replicate m (-1)) k
    unfold cellAt
    rw [rep_owner, if_neg (by omega)]
  · intro x hx
    rw [(List.mem_replicate.1 hx).2]
    exact Int.le_refl _
  · intro x hx
    rw [(List.mem_replicate.1 hx).2]
    decide
  · show (List.replicate m (-1 : Int)).length ≤ 65536
    omega

set_option maxHeartbeats 400000 in
theorem lnew_none (n : Int) (h : n < 0 ∨ 65536 < n) (w : World) : Calls Tryz.prog 26 #[.int .i64 n] w fun e w' => e = .returned (.pointer none) ∧ w = w' := by
  rcases h with h | h
  · go_enter Tryz.func26, Tryz.ntmps26
    go_wp2
    go_ret
    exact ⟨rfl, rfl⟩
  · have h2 : ¬ n < 0 := by omega
    go_enter Tryz.func26, Tryz.ntmps26
    go_wp2
    go_ret
    exact ⟨rfl, rfl⟩

set_option maxHeartbeats 400000 in
theorem llen_any {w : World} {b bm : Nat} {O : List Int} {N : Int} (h : Tab w b bm O N) : Calls Tryz.prog 50 #[.pointer (some ⟨b, 0, none⟩)] w fun e w' => e = .returned (.int .i64 O.length) ∧ w = w' := by
  have c0 : w.cell? ⟨b, 0, none⟩ = some (.int .i64 O.length) := h.blk.cell 0
  go_enter Tryz.func50, Tryz.ntmps50
  go_wp2
  go_ret
  exact ⟨rfl, rfl⟩

end Go.Proofs.YtliimglbbiebiaaGreatDoor
end

section
/- The table of locks: Owner, Blocked. -/
namespace Go.Proofs.YtliimglbbiebiaaGreatDoor
open Go.RowKit

/-- A look-up in the table's map. -/
theorem Tab.look {w : World} {b bm : Nat} {O : List Int} {N : Int} (h : Tab w b bm O N) {k : Int} (hk : okI k) :
    (Instr.lookup 113 (.map (some bm)) (.int .i64 k) true).run Tryz.prog w = .ok (.tuple #[.int .i64 (max (ownerP O k) 0), .bool (decide (0 ≤ ownerP O k))]) w := by
  obtain ⟨l, hm, _, hg⟩ := h.map
  have h1 := hm.run_look_ok (t := 113) (e := 3) Tryz.underlying113 (lzeroInt w) hk
  rw [hg k hk] at h1
  have h2 : (cellAt O k).getD (.int .i64 0) = .int .i64 (max (ownerP O k) 0) ∧ (cellAt O k).isSome = decide (0 ≤ ownerP O k) := by
    unfold cellAt
    by_cases h3 : 0 ≤ ownerP O k
    · rw [if_pos h3, decide_eq_true h3, show max (ownerP O k) 0 = ownerP O k by omega]
      exact ⟨rfl, rfl⟩
    · rw [if_neg h3, decide_eq_false h3, show max (ownerP O k) 0 = 0 by omega]
      exact ⟨rfl, rfl⟩
  rw [h2.1, h2.2] at h1
  exact h1

theorem Tab.look0 {w : World} {b bm : Nat} {O : List Int} {N : Int} (h : Tab w b bm O N) {k : Int} (hk : okI k) :
    (Instr.lookup 113 (.map (some bm)) (.int .i64 k) false).run Tryz.prog w = .ok (.int .i64 (max (ownerP O k) 0)) w := by
  obtain ⟨l, hm, _, hg⟩ := h.map
  have h1 := hm.run_look (t := 113) (e := 3) Tryz.underlying113 (lzeroInt w) hk
  rw [hg k hk] at h1
  have h2 : (cellAt O k).getD (.int .i64 0) = .int .i64 (max (ownerP O k) 0) := by
    unfold cellAt
    by_cases h3 : 0 ≤ ownerP O k
    · rw [if_pos h3, show max (ownerP O k) 0 = ownerP O k by omega]
      rfl
    · rw [if_neg h3, show max (ownerP O k) 0 = 0 by omega]
      rfl
  rw [h2] at h1
  exact h1

theorem blocked1_pred {w : World} {b bm : Nat} {O : List Int} {N : Int} (h : Tab w b bm O N) (o : Int) (gt go : Nat) (ht : Blk w gt 68 #[.pointer (some ⟨b, 0, none⟩)]) (ho : Blk w go 3 #[.int .i64 o]) :
    IsPredI w 160 #[.pointer (some ⟨gt, 0, none⟩), .pointer (some ⟨go, 0, none⟩)] (fun k => notMine O o k) := by
  intro W k hk hn
  have hW := h.new hn
  have c0 : W.cell? ⟨gt, 0, none⟩ = some (.pointer (some ⟨b, 0, none⟩)) := (hn.blk ht).cell 0
  have c1 : W.cell? ⟨go, 0, none⟩ = some (.int .i64 o) := (hn.blk ho).cell 0
  have c2 : W.cell? ⟨b, 1, none⟩ = some (.map (some bm)) := hW.blk.cell 1
  have hlk := hW.look hk
  show Calls Tryz.prog 160 #[.int .i64 k, .pointer (some ⟨gt, 0, none⟩), .pointer (some ⟨go, 0, none⟩)] W fun e w' => e = .returned (.bool (notMine O o k)) ∧ New W w'
  have hlo := ownerP_lo h.ows k
  have hnm : notMine O o k = (decide (ownerP O k < 0) || decide (ownerP O k ≠ o)) := rfl
  rw [hnm]
  clear hW h ht ho hn hnm hk
  generalize ownerP O k = x at *
  by_cases hx : 0 ≤ x
  · rw [decide_eq_true hx, show max x 0 = x by omega] at hlk
    rw [decide_eq_false (by omega : ¬ x < 0), Bool.false_or]
    by_cases hxo : x = o
    · subst hxo
      have hq : decide (x ≠ x) = false := by simp
      rw [hq]
      clear hq
      go_enter Tryz.func160, Tryz.ntmps160
      go_wp2
      go_ret
      exact ⟨rfl, New.refl _⟩
    · have hb : (x != o) = true := by simp [hxo]
      rw [decide_eq_true hxo]
      go_enter Tryz.func160, Tryz.ntmps160
      go_wp2
      go_ret
      exact ⟨rfl, New.refl _⟩
  · rw [decide_eq_false hx, show max x 0 = 0 by omega] at hlk
    rw [decide_eq_true (by omega : x < 0), Bool.true_or]
    go_enter Tryz.func160, Tryz.ntmps160
    go_wp2
    go_ret
    exact ⟨rfl, New.refl _⟩

theorem find_at {p : Int → Bool} {l : List Int} {i : Int} (h : FirstAtI p l i) : (i = -1 ∧ l.find? p = none) ∨ ∃ (k : Nat) (x : Int), i = k ∧ l[k]? = some x ∧ l.find? p = some x := by
  rcases h with ⟨rfl, h⟩ | ⟨k, x, rfl, hx, hp, hb⟩
  · exact .inl ⟨rfl, List.find?_eq_none.2 fun x hx => by rw [h x hx]; simp⟩
  · refine .inr ⟨k, x, rfl, hx, ?_⟩
    have hk := (List.getElem?_eq_some_iff.1 hx).1
    have hl : l = l.take k ++ x :: l.drop (k + 1) := by
      rw [← (List.getElem?_eq_some_iff.1 hx).2, ← List.drop_eq_getElem_cons hk, List.take_append_drop]
    rw [hl, List.find?_append, List.find?_eq_none.2 (fun y hy => by rw [hb y hy]; simp), List.find?_cons_of_pos hp]
    rfl

set_option maxRecDepth 100000 in
set_option maxHeartbeats 400000 in
theorem lblocked_any {w : World} {b bm : Nat} {O : List Int} {N : Int} (h : Tab w b bm O N) (o : Int) (u : Value) (l : List Int) (hu : Rd (intE .i64) w u l) (hok : ∀ x ∈ l, okI x) (hl : l.length ≤ 100000) :
    Calls Tryz.prog 113 #[.pointer (some ⟨b, 0, none⟩), .int .i64 o, u] w fun e w' => e = .returned (.bool (blockedP O o l)) ∧ New w w' := by
  have hmf : ∀ (fn : Fn) (first cap : Array Value) (w : World), (Instr.makeFunc fn first cap).run Tryz.prog w = .ok (.func fn first cap) w := fun _ _ _ _ => rfl
  have hlt := h.blk.lt
  have hb1 : Blk (w.alloc (.cells #[.pointer (some ⟨b, 0, none⟩)] 68)) w.heap.size 68 #[.pointer (some ⟨b, 0, none⟩)] := Blk.new _ _ _
  have hb2 : Blk ((w.alloc (.cells #[.pointer (some ⟨b, 0, none⟩)] 68)).alloc (.cells #[.int .i64 o] 3)) (w.heap.size + 1) 3 #[.int .i64 o] := Blk.new1 _ _ _ _
  have hn2 : New w ((w.alloc (.cells #[.pointer (some ⟨b, 0, none⟩)] 68)).alloc (.cells #[.int .i64 o] 3)) := ((New.refl w).alloc _).alloc _
  have hpr := blocked1_pred (h.new hn2) o _ _ (hb1.alloc (.cells #[.int .i64 o] 3)) hb2
  have hui := hu.new hn2
  have HU := Lib.hid hui
  have HP := Lib.hid hpr
  have HOK := Lib.hid hok
  have H := Lib.hid h
  obtain ⟨A, c, rfl, hA⟩ := hu
  clear hui hpr hok hA h
  generalize hq : blockedP O o l = q
  have HQ := Lib.hid hq
  clear hq
  go_enter Tryz.func113, Tryz.ntmps113
  go_wp2_with fail
  refine (iindex_any 160 #[.pointer (some ⟨w.heap.size, 0, none⟩), .pointer (some ⟨w.heap.size + 1, 0, none⟩)] _ (enters _ _ _ Tryz.func160 (by kernel_rfl) rfl) _ l _ HP.out HU.out HOK.out (by omega)).mono ?_
  rintro e w1 ⟨i, rfl, hf, hn1⟩
  have H1 := H.out.new (hn2.trans hn1)
  have hn3 := hn2.trans hn1
  rcases find_at hf with ⟨rfl, hfi⟩ | ⟨k, x, rfl, hx, hfi⟩
  · have hq := HQ.out
    unfold blockedP at hq
    rw [hfi] at hq
    subst hq
    clear hfi hf
    go_wp2
    go_ret
    exact ⟨rfl, hn3⟩
  · have hq := HQ.out
    unfold blockedP at hq
    rw [hfi] at hq
    have hq2 : decide (0 ≤ ownerP O x) = q := hq
    have hok : okI x := HOK.out x (List.mem_of_getElem? hx)
    have hlk := fun n => (H1.new ((New.refl w1).drewN n)).look hok
    rw [hq2] at hlk
    have hkl := (List.getElem?_eq_some_iff.1 hx).1
    obtain ⟨A1, c1, he1, _, hA1⟩ := (HU.out.new hn1).ints
    injection he1 with e1 e2 e3
    subst e1 e3
    obtain ⟨bb, off, rfl, hcell⟩ := hA1 (by rintro rfl; simp at hkl)
    have e0 : w1.cell? ⟨bb, off + k, none⟩ = some (.int .i64 x) := hcell k x hx
    have t0 : w1.cell? ⟨w.heap.size, 0, none⟩ = some (.pointer (some ⟨b, 0, none⟩)) := (hn1.blk (hb1.alloc (.cells #[.int .i64 o] 3))).cell 0
    have t1 : w1.cell? ⟨b, 1, none⟩ = some (.map (some bm)) := H1.blk.cell 1
    clear hfi hf hq hq2 hx hcell hA1 hok e2
    go_wp2
    go_quiet (fail)
    go_wp2
    go_ret
    exact ⟨rfl, hn3.drewN _⟩

end Go.Proofs.YtliimglbbiebiaaGreatDoor
end

section
/- The library contracts of maps.Keys, slices.Sorted and slices.Sort at this program: the numbers, compared by the kernel. Written by the kit's lay-plain; its numbers are marks. -/
namespace Go.Proofs.YtliimglbbiebiaaGreatDoor
open Go.Shelf Go.Proofs
def keysA_ren : Go.Shelf.Ren := ⟨fun | 7 => 212 | 10 => 287 | n => n, fun | 23 => 113 | 26 => 3 | 3 => 3 | 28 => 80 | 0 => 0 | 27 => 79 | 33 => 77 | 4 => 4 | n => n, fun | n => n⟩
theorem keysA : Go.Proofs.SlLaysZI.n7 Tryz.prog keysA_ren := {
  mixed := by kernel_rfl
  f7 := ⟨Tryz.f212.name, by decide, Tryz.func212.trans (congrArg some (by kernel_rfl))⟩
  f10 := ⟨Tryz.f287.name, by decide, Tryz.func287.trans (congrArg some (by kernel_rfl))⟩
  t0 := Tryz.underlying0
  a0 := Tryz.isAgg0
  z0 := Tryz.sizeOf0
  v0 := Tryz.zeroValue0
  t4 := Tryz.underlying4
  a4 := Tryz.isAgg4
  z4 := Tryz.sizeOf4
  v4 := Tryz.zeroValue4
  t23 := Tryz.underlying113
  a23 := Tryz.isAgg113
  z23 := Tryz.sizeOf113
  v23 := Tryz.zeroValue113
  t26 := Tryz.underlying3
  a26 := Tryz.isAgg3
  z26 := Tryz.sizeOf3
  v26 := Tryz.zeroValue3
  t27 := Tryz.underlying79
  a27 := Tryz.isAgg79
  z27 := Tryz.sizeOf79
  v27 := Tryz.zeroValue79
  t28 := Tryz.underlying80
  a28 := Tryz.isAgg80
  z28 := Tryz.sizeOf80
  v28 := Tryz.zeroValue80
  t33 := Tryz.underlying77
  a33 := Tryz.isAgg77
  z33 := Tryz.sizeOf77
  v33 := Tryz.zeroValue77 }
def sortedA_ren : Go.Shelf.Ren := ⟨fun | 6 => 211 | 8 => 285 | 9 => 286 | 11 => 329 | 13 => 118 | 12 => 330 | 23 => 171 | 24 => 172 | 14 => 381 | 15 => 382 | 16 => 383 | 17 => 384 | 18 => 385 | 19 => 386 | 20 => 387 | 21 => 388 | 22 => 389 | 25 => 426 | 26 => 219 | 27 => 220 | 28 => 427 | 29 => 428 | 30 => 429 | 31 => 452 | n => n, fun | 26 => 3 | 28 => 80 | 24 => 31 | 0 => 0 | 3 => 3 | 37 => 214 | 48 => 28 | 50 => 146 | 4 => 4 | 40 => 261 | 39 => 260 | 45 => 124 | 5 => 5 | 9 => 9 | 51 => 331 | 55 => 335 | 57 => 391 | 58 => 392 | 33 => 77 | n => n, fun | n => n⟩
theorem sortedA : Go.Proofs.SlLaysZI.n6 Tryz.prog sortedA_ren := {
  mixed := by kernel_rfl
  f6 := ⟨Tryz.f211.name, by decide, Tryz.func211.trans (congrArg some (by kernel_rfl))⟩
  f8 := ⟨Tryz.f285.name, by decide, Tryz.func285.trans (congrArg some (by kernel_rfl))⟩
  f11 := ⟨Tryz.f329.name, by decide, Tryz.func329.trans (congrArg some (by kernel_rfl))⟩
  t0 := Tryz.underlying0
  a0 := Tryz.isAgg0
  z0 := Tryz.sizeOf0
  v0 := Tryz.zeroValue0
  t24 := Tryz.underlying31
  a24 := Tryz.isAgg31
  z24 := Tryz.sizeOf31
  v24 := Tryz.zeroValue31
  t26 := Tryz.underlying3
  a26 := Tryz.isAgg3
  z26 := Tryz.sizeOf3
  v26 := Tryz.zeroValue3
  t28 := Tryz.underlying80
  a28 := Tryz.isAgg80
  z28 := Tryz.sizeOf80
  v28 := Tryz.zeroValue80
  i26 := by kernel_rfl }
def sortA_ren : Go.Shelf.Ren := ⟨fun | 5 => 286 | 8 => 118 | 7 => 330 | 19 => 171 | 20 => 172 | 10 => 381 | 11 => 382 | 12 => 383 | 13 => 384 | 14 => 385 | 15 => 386 | 16 => 387 | 17 => 388 | 18 => 389 | 30 => 426 | 31 => 219 | 32 => 220 | 33 => 427 | 34 => 428 | 35 => 429 | 40 => 452 | n => n, fun | 23 => 31 | 25 => 3 | 3 => 3 | 32 => 214 | 22 => 31 | 0 => 0 | 44 => 28 | 46 => 146 | 4 => 4 | 36 => 261 | 35 => 260 | 41 => 124 | 5 => 5 | 9 => 9 | 53 => 331 | 57 => 335 | 63 => 391 | 64 => 392 | n => n, fun | n => n⟩
theorem sortA : Go.Proofs.SlLaysM.n5 Tryz.prog sortA_ren := {
  mixed := by kernel_rfl
  f5 := ⟨Tryz.f286.name, by decide, Tryz.func286.trans (congrArg some (by kernel_rfl))⟩
  f7 := ⟨Tryz.f330.name, by decide, Tryz.func330.trans (congrArg some (by kernel_rfl))⟩
  f8 := Tryz.func118.trans (congrArg some (by kernel_rfl))
  f10 := ⟨Tryz.f381.name, by decide, Tryz.func381.trans (congrArg some (by kernel_rfl))⟩
  f11 := ⟨Tryz.f382.name, by decide, Tryz.func382.trans (congrArg some (by kernel_rfl))⟩
  f12 := ⟨Tryz.f383.name, by decide, Tryz.func383.trans (congrArg some (by kernel_rfl))⟩
  f13 := ⟨Tryz.f384.name, by decide, Tryz.func384.trans (congrArg some (by kernel_rfl))⟩
  f14 := ⟨Tryz.f385.name, by decide, Tryz.func385.trans (congrArg some (by kernel_rfl))⟩
  f15 := ⟨Tryz.f386.name, by decide, Tryz.func386.trans (congrArg some (by kernel_rfl))⟩
  f16 := ⟨Tryz.f387.name, by decide, Tryz.func387.trans (congrArg some (by kernel_rfl))⟩
  f17 := ⟨Tryz.f388.name, by decide, Tryz.func388.trans (congrArg some (by kernel_rfl))⟩
  f18 := ⟨Tryz.f389.name, by decide, Tryz.func389.trans (congrArg some (by kernel_rfl))⟩
  f19 := Tryz.func171.trans (congrArg some (by kernel_rfl))
  f20 := Tryz.func172.trans (congrArg some (by kernel_rfl))
  f30 := ⟨Tryz.f426.name, by decide, Tryz.func426.trans (congrArg some (by kernel_rfl))⟩
  f31 := Tryz.func219.trans (congrArg some (by kernel_rfl))
  f32 := Tryz.func220.trans (congrArg some (by kernel_rfl))
  f33 := ⟨Tryz.f427.name, by decide, Tryz.func427.trans (congrArg some (by kernel_rfl))⟩
  f34 := ⟨Tryz.f428.name, by decide, Tryz.func428.trans (congrArg some (by kernel_rfl))⟩
  f35 := ⟨Tryz.f429.name, by decide, Tryz.func429.trans (congrArg some (by kernel_rfl))⟩
  f40 := ⟨Tryz.f452.name, by decide, Tryz.func452.trans (congrArg some (by kernel_rfl))⟩
  t0 := Tryz.underlying0
  a0 := Tryz.isAgg0
  z0 := Tryz.sizeOf0
  v0 := Tryz.zeroValue0
  t3 := Tryz.underlying3
  a3 := Tryz.isAgg3
  z3 := Tryz.sizeOf3
  v3 := Tryz.zeroValue3
  t4 := Tryz.underlying4
  a4 := Tryz.isAgg4
  z4 := Tryz.sizeOf4
  v4 := Tryz.zeroValue4
  t5 := Tryz.underlying5
  a5 := Tryz.isAgg5
  z5 := Tryz.sizeOf5
  v5 := Tryz.zeroValue5
  t9 := Tryz.underlying9
  a9 := Tryz.isAgg9
  z9 := Tryz.sizeOf9
  v9 := Tryz.zeroValue9
  t22 := Tryz.underlying31
  a22 := Tryz.isAgg31
  z22 := Tryz.sizeOf31
  v22 := Tryz.zeroValue31
  t23 := Tryz.underlying31
  a23 := Tryz.isAgg31
  z23 := Tryz.sizeOf31
  v23 := Tryz.zeroValue31
  t25 := Tryz.underlying3
  a25 := Tryz.isAgg3
  z25 := Tryz.sizeOf3
  v25 := Tryz.zeroValue3
  t32 := Tryz.underlying214
  a32 := Tryz.isAgg214
  z32 := Tryz.sizeOf214
  v32 := Tryz.zeroValue214
  t35 := Tryz.underlying260
  a35 := Tryz.isAgg260
  z35 := Tryz.sizeOf260
  v35 := Tryz.zeroValue260
  t36 := Tryz.underlying261
  a36 := Tryz.isAgg261
  z36 := Tryz.sizeOf261
  v36 := Tryz.zeroValue261
  t41 := Tryz.underlying124
  a41 := Tryz.isAgg124
  z41 := Tryz.sizeOf124
  v41 := Tryz.zeroValue124
  t44 := Tryz.underlying28
  a44 := Tryz.isAgg28
  z44 := Tryz.sizeOf28
  v44 := Tryz.zeroValue28
  t46 := Tryz.underlying146
  a46 := Tryz.isAgg146
  z46 := Tryz.sizeOf146
  v46 := Tryz.zeroValue146
  t53 := Tryz.underlying331
  a53 := Tryz.isAgg331
  z53 := Tryz.sizeOf331
  v53 := Tryz.zeroValue331
  t57 := Tryz.underlying335
  a57 := Tryz.isAgg335
  z57 := Tryz.sizeOf335
  v57 := Tryz.zeroValue335
  t63 := Tryz.underlying391
  a63 := Tryz.isAgg391
  z63 := Tryz.sizeOf391
  v63 := Tryz.zeroValue391
  t64 := Tryz.underlying392
  a64 := Tryz.isAgg392
  z64 := Tryz.sizeOf392
  v64 := Tryz.zeroValue392 }
end Go.Proofs.YtliimglbbiebiaaGreatDoor
end

