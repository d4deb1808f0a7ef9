/- Owners that acquire their locks in ascending order: each pass over them makes progress until all have got and released all. Plain lemmas; of no program. -/
import Derived.Test.YtflalhciohdahaaLockP
namespace Go.Proofs.Ytflalhciohdahaa

/-- Nothing wrong so far: owners are of the lists', each list ascends above what its owner holds. -/
structure TwoInv (O : List Int) (L : List (List Int)) : Prop where
  len : O.length = 12
  ows : Ows O
  own : ∀ k, ownerP O k < L.length
  asc : ∀ l ∈ L, l.Pairwise (· < ·) ∧ ∀ x ∈ l, 0 ≤ x ∧ x < 12
  above : ∀ (i : Nat) (l : List Int), L[i]? = some l → ∀ k, ownerP O k = i → ∀ y ∈ l, k < y

/-- A turn of owner i. -/
def stepP (O : List Int) (L : List (List Int)) (i : Nat) : List Int × List (List Int) :=
  match L[i]? with
  | none => (O, L)
  | some [] => (relO O i, L)
  | some (x :: xs) => if blockedP O i (x :: xs) then (O, L) else (acqO O i x, L.set i xs)

/-- The owner holds none of the twelve locks. -/
def idleP (O : List Int) (i : Nat) : Bool := (List.range 12).all fun j => decide (ownerP O (j : Nat) ≠ i)
theorem idleP_iff {O : List Int} {i : Nat} : idleP O i = true ↔ ∀ j < 12, ownerP O (j : Nat) ≠ i := by
  unfold idleP
  rw [List.all_eq_true]
  constructor
  · intro h j hj
    exact of_decide_eq_true (h j (List.mem_range.2 hj))
  · intro h j hj
    exact decide_eq_true (h j (List.mem_range.1 hj))
/-- What is left to do for owner i. -/
def remP (O : List Int) (L : List (List Int)) (i : Nat) : Nat := (L.getD i []).length + if L.getD i [] = [] ∧ idleP O i = true then 0 else 1
def potP (O : List Int) (L : List (List Int)) : Nat := ((List.range L.length).map (remP O L)).sum

theorem sum_le {f g : Nat → Nat} (n : Nat) (h : ∀ i < n, f i ≤ g i) : ((List.range n).map f).sum ≤ ((List.range n).map g).sum := by
  induction n with
  | zero => exact Nat.le_refl _
  | succ n ih =>
    rw [List.range_succ, List.map_append, List.map_append, List.sum_append, List.sum_append]
    have := ih fun i hi => h i (by omega)
    have := h n (by omega)
    simp only [List.map_cons, List.map_nil, List.sum_cons, List.sum_nil]
    omega
theorem sum_lt {f g : Nat → Nat} (n : Nat) (h : ∀ i < n, f i ≤ g i) {j : Nat} (hj : j < n) (hs : f j < g j) : ((List.range n).map f).sum < ((List.range n).map g).sum := by
  induction n with
  | zero => omega
  | succ n ih =>
    rw [List.range_succ, List.map_append, List.map_append, List.sum_append, List.sum_append]
    simp only [List.map_cons, List.map_nil, List.sum_cons, List.sum_nil]
    have h1 := h n (by omega)
    by_cases hjn : j = n
    · subst hjn
      have := sum_le j (f := f) (g := g) fun i hi => h i (by omega)
      omega
    · have := ih (fun i hi => h i (by omega)) (by omega)
      omega
theorem sum_zero {f : Nat → Nat} (n : Nat) (h : ((List.range n).map f).sum = 0) : ∀ i < n, f i = 0 := by
  induction n with
  | zero => intro i hi; omega
  | succ n ih =>
    rw [List.range_succ, List.map_append, List.sum_append] at h
    simp only [List.map_cons, List.map_nil, List.sum_cons, List.sum_nil] at h
    intro i hi
    by_cases hin : i = n
    · subst hin; omega
    · exact ih (by omega) i (by omega)
theorem sum_const (n c : Nat) {f : Nat → Nat} (h : ∀ i < n, f i ≤ c) : ((List.range n).map f).sum ≤ n * c := by
  induction n with
  | zero => simp
  | succ n ih =>
    rw [List.range_succ, List.map_append, List.sum_append]
    simp only [List.map_cons, List.map_nil, List.sum_cons, List.sum_nil]
    have := ih fun i hi => h i (by omega)
    have := h n (by omega)
    rw [Nat.add_mul]
    omega

section
variable {O : List Int} {L : List (List Int)}

theorem TwoInv.head_free (h : TwoInv O L) {i : Nat} {x : Int} {xs : List Int} (hi : L[i]? = some (x :: xs)) (hb : blockedP O i (x :: xs) = false) : ownerP O x < 0 := by
  have hne : ownerP O x ≠ i := fun e => by
    have := h.above i _ hi x e x List.mem_cons_self
    omega
  unfold blockedP at hb
  rw [List.find?_cons_of_pos (by unfold notMine; simp [hne])] at hb
  have hb' : decide (0 ≤ ownerP O x) = false := hb
  have := of_decide_eq_false hb'
  omega
theorem TwoInv.head_blocked (h : TwoInv O L) {i : Nat} {x : Int} {xs : List Int} (hi : L[i]? = some (x :: xs)) (hb : blockedP O i (x :: xs) = true) : 0 ≤ ownerP O x ∧ ownerP O x ≠ i := by
  have hne : ownerP O x ≠ i := fun e => by
    have := h.above i _ hi x e x List.mem_cons_self
    omega
  unfold blockedP at hb
  rw [List.find?_cons_of_pos (by unfold notMine; simp [hne])] at hb
  exact ⟨of_decide_eq_true hb, hne⟩
theorem TwoInv.acq (h : TwoInv O L) {i : Nat} {x : Int} {xs : List Int} (hi : L[i]? = some (x :: xs)) (hb : blockedP O i (x :: xs) = false) : acqP O i x = 0 := by
  have hf := h.head_free hi hb
  have hr := (h.asc _ (List.mem_of_getElem? hi)).2 x List.mem_cons_self
  unfold acqP
  rw [if_neg (by rw [h.len]; omega), if_neg (by omega), if_neg, if_neg (by omega)]
  intro hany
  obtain ⟨y, hy, hlt⟩ := List.any_eq_true.1 hany
  have hyo := (mem_heldP (O := O) (o := i) (by omega)).1 hy
  have := h.above i _ hi y hyo x List.mem_cons_self
  have := of_decide_eq_true hlt
  omega

theorem stepP_nil {i : Nat} (hi : L[i]? = some []) : stepP O L i = (relO O i, L) := by unfold stepP; rw [hi]
theorem stepP_blocked {i : Nat} {x : Int} {xs : List Int} (hi : L[i]? = some (x :: xs)) (hb : blockedP O i (x :: xs) = true) : stepP O L i = (O, L) := by
  unfold stepP
  rw [hi]
  show (if blockedP O i (x :: xs) = true then (O, L) else _) = _
  rw [if_pos hb]
theorem stepP_acq {i : Nat} {x : Int} {xs : List Int} (hi : L[i]? = some (x :: xs)) (hb : blockedP O i (x :: xs) = false) : stepP O L i = (acqO O i x, L.set i xs) := by
  unfold stepP
  rw [hi]
  show (if blockedP O i (x :: xs) = true then (O, L) else _) = _
  rw [if_neg (by rw [hb]; simp)]

theorem TwoInv.rel (h : TwoInv O L) (i : Nat) : TwoInv (relO O i) L :=
  ⟨(relO_len _ _).trans h.len, relO_ows h.ows _, fun k => by
    rw [ownerP_relO]
    split
    · omega
    · exact h.own k, h.asc, fun j l hj k hk y hy => by
    rw [ownerP_relO] at hk
    split at hk
    · omega
    · exact h.above j l hj k hk y hy⟩
theorem TwoInv.take (h : TwoInv O L) {i : Nat} {x : Int} {xs : List Int} (hi : L[i]? = some (x :: xs)) (hb : blockedP O i (x :: xs) = false) : TwoInv (acqO O i x) (L.set i xs) := by
  have hil : i < L.length := (List.getElem?_eq_some_iff.1 hi).1
  have h0 := h.acq hi hb
  have ha := h.asc _ (List.mem_of_getElem? hi)
  have hown : ∀ k, ownerP (acqO O i x) k = if k = x then (i : Int) else ownerP O k := by
    intro k
    rw [ownerP_acqO]
    by_cases hk : k = x
    · rw [if_pos ⟨h0, hk⟩, if_pos hk]
    · rw [if_neg (fun h => hk h.2), if_neg hk]
  refine ⟨(acqO_len _ _ _).trans h.len, acqO_ows h.ows _ _, fun k => ?_, fun l hl => ?_, fun j l hj k hk y hy => ?_⟩
  · rw [hown, List.length_set]
    split
    · omega
    · exact h.own k
  · rcases List.mem_or_eq_of_mem_set hl with h1 | h1
    · exact h.asc l h1
    · subst h1
      exact ⟨(List.pairwise_cons.1 ha.1).2, fun z hz => ha.2 z (List.mem_cons_of_mem _ hz)⟩
  · rw [hown] at hk
    by_cases hji : j = i
    · subst hji
      rw [List.getElem?_set_self hil] at hj
      injection hj with hj
      subst hj
      split at hk
      · rename_i hkx
        subst hkx
        exact (List.pairwise_cons.1 ha.1).1 y hy
      · exact h.above j _ hi k hk y (List.mem_cons_of_mem _ hy)
    · rw [List.getElem?_set_ne (fun e => hji e.symm)] at hj
      split at hk
      · omega
      · exact h.above j l hj k hk y hy

theorem getD_some {i : Nat} {l : List Int} (h : L[i]? = some l) : L.getD i [] = l := by rw [List.getD_eq_getElem?_getD, h]; rfl

/-- A turn never adds to what is left; one that turns something takes from it. -/
theorem TwoInv.step_pot (h : TwoInv O L) {i : Nat} (hi : i < L.length) : TwoInv (stepP O L i).1 (stepP O L i).2 ∧ (stepP O L i).2.length = L.length ∧ (stepP O L i = (O, L) ∨ potP (stepP O L i).1 (stepP O L i).2 < potP O L) := by
  obtain ⟨l, hl⟩ : ∃ l, L[i]? = some l := ⟨_, List.getElem?_eq_getElem hi⟩
  cases l with
  | nil =>
    rw [stepP_nil hl]
    refine ⟨h.rel i, rfl, ?_⟩
    by_cases hz : ∀ j < 12, ownerP O (j : Nat) ≠ i
    · refine .inl ?_
      have : relO O i = O := by
        refine List.ext_getElem? fun j => ?_
        unfold relO
        rw [List.getElem?_map]
        rcases Nat.lt_or_ge j O.length with hj | hj
        · rw [List.getElem?_eq_getElem hj]
          have h1 := hz j (by rw [← h.len]; exact hj)
          rw [ownerP_nat, List.getD_eq_getElem?_getD, List.getElem?_eq_getElem hj] at h1
          have h1' : ¬ O[j] = (i : Int) := h1
          show some (if O[j] = (i : Int) then -1 else O[j]) = some O[j]
          rw [if_neg h1']
        · rw [List.getElem?_eq_none hj]; rfl
      rw [this]
    · refine .inr ?_
      show potP (relO O i) L < potP O L
      unfold potP
      refine sum_lt L.length (fun j _ => ?_) hi ?_
      · unfold remP
        by_cases h1 : L.getD j [] = [] ∧ idleP O j = true
        · rw [if_pos h1, if_pos ⟨h1.1, idleP_iff.2 fun k hk => by
            rw [ownerP_relO]
            split
            · omega
            · exact idleP_iff.1 h1.2 k hk⟩]
          exact Nat.le_refl _
        · rw [if_neg h1]
          split <;> omega
      · unfold remP
        rw [if_pos ⟨getD_some hl, idleP_iff.2 fun k hk => by
          rw [ownerP_relO]
          split
          · omega
          · assumption⟩, if_neg (fun hh => hz (idleP_iff.1 hh.2))]
        omega
  | cons x xs =>
    cases hb : blockedP O i (x :: xs) with
    | true =>
      rw [stepP_blocked hl hb]
      exact ⟨h, rfl, .inl rfl⟩
    | false =>
      rw [stepP_acq hl hb]
      have hown : ∀ k, ownerP (acqO O i x) k = if k = x then (i : Int) else ownerP O k := by
        intro k
        rw [ownerP_acqO]
        by_cases hk : k = x
        · rw [if_pos ⟨h.acq hl hb, hk⟩, if_pos hk]
        · rw [if_neg (fun h => hk h.2), if_neg hk]
      have hf := h.head_free hl hb
      have hr := (h.asc _ (List.mem_of_getElem? hl)).2 x List.mem_cons_self
      refine ⟨h.take hl hb, List.length_set .., .inr ?_⟩
      show potP (acqO O i x) (L.set i xs) < potP O L
      unfold potP
      rw [List.length_set]
      have hself : (L.set i xs).getD i [] = xs := by rw [List.getD_eq_getElem?_getD, List.getElem?_set_self hi]; rfl
      have hoth : ∀ j, j ≠ i → (L.set i xs).getD j [] = L.getD j [] := fun j hj => by rw [List.getD_eq_getElem?_getD, List.getElem?_set_ne (fun e => hj e.symm), ← List.getD_eq_getElem?_getD]
      have hi1 : remP (acqO O i x) (L.set i xs) i < remP O L i := by
        unfold remP
        rw [hself, getD_some hl, if_neg, if_neg (by simp)]
        · simp
        · rintro ⟨_, h2⟩
          have := idleP_iff.1 h2 x.toNat (by omega)
          rw [hown, if_pos (by omega)] at this
          exact this rfl
      refine sum_lt L.length (fun j _ => ?_) hi hi1
      by_cases hji : j = i
      · subst hji; exact Nat.le_of_lt hi1
      · show remP (acqO O i x) (L.set i xs) j ≤ remP O L j
        unfold remP
        rw [hoth j hji]
        by_cases h1 : L.getD j [] = [] ∧ idleP O j = true
        · rw [if_pos h1, if_pos ⟨h1.1, idleP_iff.2 fun k hk => by
            rw [hown]
            split
            · omega
            · exact idleP_iff.1 h1.2 k hk⟩]
          exact Nat.le_refl _
        · rw [if_neg h1]
          split <;> omega

/-- Where no turn turns anything, all is done. -/
theorem TwoInv.stuck (h : TwoInv O L) (hs : ∀ i < L.length, stepP O L i = (O, L)) : potP O L = 0 := by
  -- an owner with an empty list holds nothing
  have hnil : ∀ i < L.length, L[i]? = some [] → ∀ k, ownerP O k ≠ i := by
    intro i hi hl k hk
    have h1 := hs i hi
    rw [stepP_nil hl] at h1
    have h2 : relO O i = O := congrArg Prod.fst h1
    have h3 := ownerP_relO O i k
    rw [h2, if_pos hk] at h3
    omega
  -- no list is left
  have hno : ∀ (m : Nat) (i : Nat) (x : Int) (xs : List Int), L[i]? = some (x :: xs) → (12 - x).toNat ≤ m → False := by
    intro m
    induction m with
    | zero =>
      intro i x xs hl hm
      have := (h.asc _ (List.mem_of_getElem? hl)).2 x List.mem_cons_self
      omega
    | succ m ih =>
      intro i x xs hl hm
      have hi := (List.getElem?_eq_some_iff.1 hl).1
      have hx := (h.asc _ (List.mem_of_getElem? hl)).2 x List.mem_cons_self
      cases hb : blockedP O i (x :: xs) with
      | false =>
        have h1 := hs i hi
        rw [stepP_acq hl hb] at h1
        have h2 : L.set i xs = L := congrArg Prod.snd h1
        have h3 : (L.set i xs)[i]? = some xs := List.getElem?_set_self hi
        rw [h2, hl] at h3
        injection h3 with h3
        have := congrArg List.length h3
        simp at this
      | true =>
        have h1 := h.head_blocked hl hb
        obtain ⟨j, hj⟩ : ∃ j : Nat, ownerP O x = j := ⟨(ownerP O x).toNat, by omega⟩
        have hjl : j < L.length := by have := h.own x; omega
        obtain ⟨l, hlj⟩ : ∃ l, L[j]? = some l := ⟨_, List.getElem?_eq_getElem hjl⟩
        cases l with
        | nil => exact hnil j hjl hlj x hj
        | cons y ys =>
          have h2 := h.above j _ hlj x hj y List.mem_cons_self
          exact ih j y ys hlj (by omega)
  have hz : ∀ i < L.length, remP O L i ≤ 0 := by
    intro i hi
    obtain ⟨l, hl⟩ : ∃ l, L[i]? = some l := ⟨_, List.getElem?_eq_getElem hi⟩
    cases l with
    | cons x xs => exact (hno _ i x xs hl (Nat.le_refl _)).elim
    | nil =>
      unfold remP
      rw [getD_some hl, if_pos ⟨rfl, idleP_iff.2 fun k _ => hnil i hi hl k⟩]
      simp
  have := sum_const L.length 0 hz
  unfold potP
  omega

/-- With nothing left, all locks are free and all lists are empty. -/
theorem TwoInv.done (h : TwoInv O L) (hp : potP O L = 0) : freeP O = true ∧ ∀ l ∈ L, l = [] := by
  have hz := sum_zero L.length hp
  have hrem : ∀ i < L.length, L.getD i [] = [] ∧ ∀ j < 12, ownerP O (j : Nat) ≠ i := by
    intro i hi
    have h1 := hz i hi
    unfold remP at h1
    split at h1
    · rename_i h2
      exact ⟨h2.1, idleP_iff.1 h2.2⟩
    · omega
  refine ⟨freeP_iff.2 fun k => ?_, fun l hl => ?_⟩
  · rcases Int.lt_or_le (ownerP O k) 0 with h1 | h1
    · exact h1
    · have hk := ownerP_in h1
      have hl := h.len
      have ho := h.own k
      have h2 := (hrem (ownerP O k).toNat (by omega)).2 k.toNat (by omega)
      rw [show ((k.toNat : Nat) : Int) = k by omega] at h2
      omega
  · obtain ⟨i, hi⟩ := List.mem_iff_getElem?.1 hl
    have := (hrem i (List.getElem?_eq_some_iff.1 hi).1).1
    rw [getD_some hi] at this
    exact this

/-- How many locks are still wanted. -/
def wantP (L : List (List Int)) : Nat := (L.map List.length).sum
theorem wantP_set {i : Nat} {x : Int} {xs : List Int} (hi : L[i]? = some (x :: xs)) : wantP (L.set i xs) + 1 = wantP L := by
  unfold wantP
  induction L generalizing i with
  | nil => simp at hi
  | cons l L ih =>
    cases i with
    | zero =>
      simp only [List.getElem?_cons_zero, Option.some.injEq] at hi
      subst hi
      simp
      omega
    | succ i =>
      rw [List.getElem?_cons_succ] at hi
      have := ih hi
      simp only [List.set_cons_succ, List.map_cons, List.sum_cons]
      omega
theorem wantP_nil (h : ∀ l ∈ L, l = []) : wantP L = 0 := by
  unfold wantP
  induction L with
  | nil => rfl
  | cons l L ih =>
    have := h l List.mem_cons_self
    subst this
    simpa using ih fun m hm => h m (List.mem_cons_of_mem _ hm)
theorem wantP_snoc (l : List Int) : wantP (L ++ [l]) = wantP L + l.length := by simp [wantP]
theorem potP_le : potP O L ≤ wantP L + L.length := by
  unfold potP wantP
  have h1 : ∀ (n : Nat), n ≤ L.length → ((List.range n).map (remP O L)).sum ≤ ((L.take n).map List.length).sum + n := by
    intro n
    induction n with
    | zero => intro _; simp
    | succ n ih =>
      intro hn
      have h2 := ih (by omega)
      rw [List.range_succ, List.map_append, List.sum_append, List.take_succ_eq_append_getElem (by omega), List.map_append, List.sum_append]
      simp only [List.map_cons, List.map_nil, List.sum_cons, List.sum_nil]
      have h3 : remP O L n ≤ L[n].length + 1 := by
        unfold remP
        rw [getD_some (List.getElem?_eq_getElem (by omega))]
        split <;> omega
      omega
  have := h1 L.length (Nat.le_refl _)
  rwa [List.take_length] at this
end

end Go.Proofs.Ytflalhciohdahaa
