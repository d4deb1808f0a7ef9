/- Locks as a list of owners, -1 for a free lock. Plain lemmas; of no program. -/
import Derived.Test.YtflalhciohdahaaWords
namespace Go.Proofs.Ytflalhciohdahaa

/-- The owner of a lock, -1 where there is none. -/
def ownerP (O : List Int) (k : Int) : Int := if 0 ≤ k then O.getD k.toNat (-1) else -1
/-- The locks of an owner, ascending. -/
def heldN (O : List Int) (o : Int) : List Nat := (List.range O.length).filter fun i => decide (O.getD i (-1) = o)
def heldP (O : List Int) (o : Int) : List Int := if o < 0 then [] else (heldN O o).map Int.ofNat
/-- The code of an acquiring. -/
def acqP (O : List Int) (o k : Int) : Nat :=
  if o < 0 ∨ k < 0 ∨ (O.length : Int) ≤ k then 2 else
  if ownerP O k = o then 8 else
  if (heldP O o).any (fun x => decide (k < x)) then 10 else
  if 0 ≤ ownerP O k then 9 else 0
/-- The owners behind an acquiring. -/
def acqO (O : List Int) (o k : Int) : List Int := if acqP O o k = 0 then O.set k.toNat o else O
/-- How many have been acquired by it. -/
def acqN (O : List Int) (o k : Int) : Nat := if acqP O o k = 0 then 1 else 0
/-- The owners behind a release. -/
def relO (O : List Int) (o : Int) : List Int := O.map fun x => if x = o then -1 else x
def freeP (O : List Int) : Bool := O.all fun x => decide (x < 0)
/-- Is a lock not the owner's? -/
def notMine (O : List Int) (o k : Int) : Bool := decide (ownerP O k < 0) || decide (ownerP O k ≠ o)
def blockedP (O : List Int) (o : Int) (ks : List Int) : Bool := match ks.find? (notMine O o) with | none => false | some k => decide (0 ≤ ownerP O k)

/-- Owners are from -1 on. -/
def Ows (O : List Int) : Prop := ∀ x ∈ O, -1 ≤ x

theorem ownerP_lo {O : List Int} (h : Ows O) (k : Int) : -1 ≤ ownerP O k := by
  unfold ownerP
  split
  · rw [List.getD_eq_getElem?_getD]
    cases hk : O[k.toNat]? with
    | none => simp
    | some x => simpa using h x (List.mem_of_getElem? hk)
  · exact Int.le_refl _
theorem ownerP_out {O : List Int} {k : Int} (h : k < 0 ∨ (O.length : Int) ≤ k) : ownerP O k = -1 := by
  unfold ownerP
  split
  · rw [List.getD_eq_getElem?_getD, List.getElem?_eq_none (by omega)]; rfl
  · rfl
theorem ownerP_nat (O : List Int) (i : Nat) : ownerP O i = O.getD i (-1) := by
  unfold ownerP
  rw [if_pos (by omega)]
  rfl
theorem ownerP_in {O : List Int} {k : Int} (h : 0 ≤ ownerP O k) : 0 ≤ k ∧ k < O.length := by
  by_cases h1 : k < 0 ∨ (O.length : Int) ≤ k
  · rw [ownerP_out h1] at h; omega
  · omega
theorem mem_heldN {O : List Int} {o : Int} {i : Nat} : i ∈ heldN O o ↔ i < O.length ∧ O.getD i (-1) = o := by
  unfold heldN
  rw [List.mem_filter]
  simp
theorem mem_heldP {O : List Int} {o k : Int} (ho : 0 ≤ o) : k ∈ heldP O o ↔ ownerP O k = o := by
  unfold heldP
  rw [if_neg (by omega), List.mem_map]
  constructor
  · rintro ⟨i, hi, rfl⟩
    rw [mem_heldN] at hi
    show ownerP O (i : Int) = o
    rw [ownerP_nat]; exact hi.2
  · intro h
    have hk := ownerP_in (O := O) (k := k) (by omega)
    refine ⟨k.toNat, mem_heldN.2 ⟨by omega, ?_⟩, by show ((k.toNat : Nat) : Int) = k; omega⟩
    unfold ownerP at h
    rwa [if_pos hk.1] at h
theorem heldN_sorted (O : List Int) (o : Int) : (heldN O o).Pairwise (· < ·) := List.Pairwise.filter _ List.pairwise_lt_range
theorem heldP_sorted (O : List Int) (o : Int) : (heldP O o).Pairwise (· < ·) := by
  unfold heldP
  split
  · exact List.Pairwise.nil
  · refine (heldN_sorted O o).map _ fun a b h => ?_
    show (a : Int) < (b : Int)
    omega
theorem heldP_len (O : List Int) (o : Int) : (heldP O o).length ≤ O.length := by
  unfold heldP
  split
  · simp
  · rw [List.length_map]
    unfold heldN
    have := List.length_filter_le (fun i => decide (O.getD i (-1) = o)) (List.range O.length)
    rwa [List.length_range] at this
theorem heldP_range {O : List Int} {o k : Int} (h : k ∈ heldP O o) : 0 ≤ k ∧ k < O.length := by
  by_cases ho : 0 ≤ o
  · have := (mem_heldP ho).1 h
    exact ownerP_in (by omega)
  · unfold heldP at h
    rw [if_pos (by omega)] at h
    cases h
/-- Two strictly ascending lists of the same members are one. -/
theorem sorted_ext {l m : List Int} (hl : l.Pairwise (· < ·)) (hm : m.Pairwise (· < ·)) (h : ∀ x, x ∈ l ↔ x ∈ m) : l = m := by
  have hp : l.Perm m := (List.perm_ext_iff_of_nodup (hl.imp fun h => by omega) (hm.imp fun h => by omega)).2 h
  exact hp.eq_of_pairwise (fun a b _ _ h1 h2 => by omega) hl hm
theorem getD_set_self {O : List Int} {i : Nat} (h : i < O.length) (x d : Int) : (O.set i x).getD i d = x := by
  rw [List.getD_eq_getElem?_getD, List.getElem?_set_self h]; rfl
theorem ownerP_set {O : List Int} {k : Int} (hk : 0 ≤ k) (hk2 : k < O.length) (o j : Int) : ownerP (O.set k.toNat o) j = if j = k then o else ownerP O j := by
  unfold ownerP
  split
  · by_cases hj : j = k
    · subst hj
      rw [if_pos rfl, getD_set_self (by omega)]
    · rw [if_neg hj, List.getD_eq_getElem?_getD, List.getElem?_set_ne (by omega), ← List.getD_eq_getElem?_getD]
  · rw [if_neg (by omega)]
theorem acqO_len (O : List Int) (o k : Int) : (acqO O o k).length = O.length := by
  unfold acqO
  split <;> simp
theorem acqP_zero {O : List Int} {o k : Int} (h : acqP O o k = 0) : 0 ≤ o ∧ 0 ≤ k ∧ k < O.length ∧ ownerP O k < 0 ∧ ∀ x ∈ heldP O o, x ≤ k := by
  unfold acqP at h
  split at h
  · cases h
  · split at h
    · cases h
    · split at h
      · cases h
      · split at h
        · cases h
        · rename_i h1 h2 h3 h4
          refine ⟨by omega, by omega, by omega, by omega, fun x hx => ?_⟩
          rcases Int.lt_or_le k x with h5 | h5
          · exact absurd (List.any_eq_true.2 ⟨x, hx, decide_eq_true h5⟩) h3
          · exact h5
theorem acqO_ows {O : List Int} (h : Ows O) (o k : Int) : Ows (acqO O o k) := by
  unfold acqO
  split
  · rename_i h0
    have := acqP_zero h0
    intro x hx
    rcases List.mem_or_eq_of_mem_set hx with h1 | h1
    · exact h x h1
    · omega
  · exact h
theorem ownerP_acqO (O : List Int) (o k j : Int) : ownerP (acqO O o k) j = if acqP O o k = 0 ∧ j = k then o else ownerP O j := by
  unfold acqO
  split
  · rename_i h0
    have := acqP_zero h0
    rw [ownerP_set this.2.1 this.2.2.1]
    by_cases hj : j = k
    · rw [if_pos hj, if_pos ⟨h0, hj⟩]
    · rw [if_neg hj, if_neg (fun h => hj h.2)]
  · rename_i h0
    rw [if_neg (fun h => h0 h.1)]
theorem relO_len (O : List Int) (o : Int) : (relO O o).length = O.length := by simp [relO]
theorem relO_ows {O : List Int} (h : Ows O) (o : Int) : Ows (relO O o) := by
  intro x hx
  unfold relO at hx
  obtain ⟨y, hy, rfl⟩ := List.mem_map.1 hx
  split
  · exact Int.le_refl _
  · exact h y hy
theorem ownerP_relO (O : List Int) (o j : Int) : ownerP (relO O o) j = if ownerP O j = o then -1 else ownerP O j := by
  unfold ownerP relO
  split
  · rw [List.getD_eq_getElem?_getD, List.getD_eq_getElem?_getD, List.getElem?_map]
    cases O[j.toNat]? with
    | none => simp
    | some x => simp
  · simp
theorem relO_neg {O : List Int} (h : Ows O) {o : Int} (ho : o < 0) : relO O o = O := by
  refine (List.map_congr_left (g := id) fun x hx => ?_).trans (List.map_id _)
  have := h x hx
  show (if x = o then -1 else x) = x
  split <;> omega
theorem freeP_iff {O : List Int} : freeP O = true ↔ ∀ k, ownerP O k < 0 := by
  unfold freeP
  rw [List.all_eq_true]
  constructor
  · intro h k
    unfold ownerP
    split
    · rw [List.getD_eq_getElem?_getD]
      cases hk : O[k.toNat]? with
      | none => simp
      | some x => simpa using h x (List.mem_of_getElem? hk)
    · omega
  · intro h x hx
    obtain ⟨i, hi⟩ := List.mem_iff_getElem?.1 hx
    have := h i
    rw [ownerP_nat, List.getD_eq_getElem?_getD, hi] at this
    simpa using this
end Go.Proofs.Ytflalhciohdahaa
