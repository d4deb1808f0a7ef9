/- A table of messages in stripes: how it stands in memory. -/
import Derived.Test.YtjnaihhkbbeaoaaMsg
import Derived.Test.YtjnaihhkbbeaoaaMaps
namespace Go.Proofs.Ytjnaihhkbbeaoaa
open Go.RowKit Go.Maps

abbrev uKeys : KeyEnc Try.prog 22 Int := intKeys Try.underlying22

section
variable {P : Program} {K : TypeId} {α : Type} [DecidableEq α] {E : KeyEnc P K α} {w : World} {b : Nat} {l l' : List (α × Value)}
theorem get_perm (hp : l.Perm l') (hnd : (l.map Prod.fst).Nodup) (a : α) : get l a = get l' a := by
  cases h : get l a with
  | none =>
    symm
    rw [get_none_iff] at h ⊢
    exact fun hm => h ((hp.map _).mem_iff.2 hm)
  | some v =>
    symm
    exact get_of_mem ((hp.map _).nodup_iff.1 hnd) (hp.mem_iff.1 (mem_of_get h))
theorem HasMap.perm (h : HasMap E w b l) (hp : l.Perm l') : HasMap E w b l' := by
  obtain ⟨D, h1, h2, h3⟩ := h.own
  refine ⟨(hp.map _).nodup_iff.1 h.nd, fun p hp' => h.oks p (hp.mem_iff.2 hp'), D, by rw [← hp.length_eq]; exact h1, by rw [← hp.length_eq]; exact h2, fun a ha z => ?_⟩
  rw [← get_perm hp h.nd a]
  exact h3 a ha z
theorem del_none {k : α} (h : get l k = none) : del l k = l := by
  unfold del
  rw [List.filter_eq_self]
  intro p hp
  have := get_none_iff.1 h
  simp
  rintro rfl
  exact this (List.mem_map.2 ⟨p, hp, rfl⟩)
theorem put_new_perm {k : α} {v : Value} (h : get l k = none) : (put l k v).Perm (l ++ [(k, v)]) := by
  unfold put
  rw [del_none h]
  exact (List.perm_append_singleton _ _).symm
theorem put_set_perm {k : α} {v v0 : Value} (hnd : (l.map Prod.fst).Nodup) (h : get l k = some v0) : (put l k v).Perm (l.map fun p => if p.1 = k then (k, v) else p) := by
  induction l with
  | nil => cases h
  | cons p l ih =>
    rw [List.map_cons, List.nodup_cons] at hnd
    rw [get_cons] at h
    unfold put del at ih ⊢
    by_cases hp : p.1 = k
    · have hn : get l k = none := get_none_iff.2 (by rw [← hp]; exact hnd.1)
      have hd : l.filter (fun p => decide (p.1 ≠ k)) = l := del_none hn
      rw [List.filter_cons_of_neg (by simpa using hp), hd, List.map_cons, if_pos hp]
      refine List.Perm.cons _ ?_
      have : l.map (fun p => if p.1 = k then (k, v) else p) = l := by
        conv => rhs; rw [← List.map_id l]
        refine List.map_congr_left fun q hq => ?_
        rw [if_neg]
        · rfl
        · rintro rfl
          exact get_none_iff.1 hn (List.mem_map.2 ⟨q, hq, rfl⟩)
      rw [this]
    · rw [if_neg hp] at h
      rw [List.filter_cons_of_pos (by simpa using hp), List.map_cons, if_neg hp]
      exact (List.Perm.swap _ _ _).trans ((ih hnd.2 h).cons _)
end

/-- The entries of stripe i of n. -/
def ent (n i : Nat) (X : List MB) : List (Int × Value) := (X.filter fun x : MB => decide (x.m.uid % (n : Int) = (i : Int))).map fun x : MB => (x.m.uid, x.val)
def findX (X : List MB) (k : Int) : Option MB := X.find? fun x : MB => decide (x.m.uid = k)
def remX (X : List MB) (k : Int) : List MB := X.filter fun x : MB => decide (x.m.uid ≠ k)
def MB.setf (x : MB) (f : Int) : MB := { x with m := { x.m with fl := f } }
def setX (X : List MB) (k f : Int) : List MB := X.map fun x : MB => if x.m.uid = k then x.setf f else x

theorem findX_map (X : List MB) (k : Int) : findM (X.map MB.m) k = (findX X k).map MB.m := by
  unfold findM findX
  rw [List.find?_map]
  rfl
theorem remX_map (X : List MB) (k : Int) : (remX X k).map MB.m = remM (X.map MB.m) k := by
  unfold remX remM
  rw [List.filter_map]
  rfl
theorem setX_map (X : List MB) (k f : Int) : (setX X k f).map MB.m = setF (X.map MB.m) k f := by
  unfold setX setF
  rw [List.map_map, List.map_map]
  refine List.map_congr_left fun x _ => ?_
  simp only [Function.comp]
  split <;> rfl
theorem findX_mem {X : List MB} {k : Int} {x : MB} (h : findX X k = some x) : x ∈ X ∧ x.m.uid = k := by
  unfold findX at h
  refine ⟨List.mem_of_find?_eq_some h, ?_⟩
  simpa using List.find?_some h

theorem get_ent (n : Nat) {i : Nat} {k : Int} (hk : k % n = i) (X : List MB) : get (ent n i X) k = (findX X k).map MB.val := by
  induction X with
  | nil => rfl
  | cons x X ih =>
    unfold ent findX at ih ⊢
    rw [List.find?_cons]
    by_cases hx : x.m.uid % n = i
    · rw [List.filter_cons_of_pos (by simpa using hx), List.map_cons, get_cons]
      by_cases he : x.m.uid = k
      · rw [if_pos he, decide_eq_true he]; rfl
      · rw [if_neg he, decide_eq_false he, ih]
    · rw [List.filter_cons_of_neg (by simpa using hx), decide_eq_false (by rintro rfl; exact hx hk), ih]
theorem ent_app (n i : Nat) (X : List MB) (x : MB) : ent n i (X ++ [x]) = if x.m.uid % n = i then ent n i X ++ [(x.m.uid, x.val)] else ent n i X := by
  unfold ent
  rw [List.filter_append]
  by_cases h : x.m.uid % n = i
  · rw [if_pos h, List.filter_cons_of_pos (by simpa using h)]
    simp
  · rw [if_neg h, List.filter_cons_of_neg (by simpa using h)]
    simp
theorem ent_rem (n i : Nat) (X : List MB) (k : Int) : ent n i (remX X k) = del (ent n i X) k := by
  unfold ent remX del
  rw [List.filter_map, List.filter_filter, List.filter_filter]
  congr 1
  refine List.filter_congr fun x _ => ?_
  simp only [Function.comp]
  rw [Bool.and_comm]
theorem setf_uid (x : MB) (f : Int) : (x.setf f).m.uid = x.m.uid := rfl
theorem ent_set {n i : Nat} {k f : Int} {x : MB} (X : List MB) (H : ∀ y ∈ X, y.m.uid = k → y = x) : ent n i (setX X k f) = (ent n i X).map fun p => if p.1 = k then (k, (x.setf f).val) else p := by
  induction X with
  | nil => rfl
  | cons y X ih =>
    have ih := ih fun z hz => H z (List.mem_cons_of_mem _ hz)
    have hy := H y List.mem_cons_self
    unfold ent setX at ih ⊢
    rw [List.map_cons]
    by_cases he : y.m.uid = k
    · obtain rfl := hy he
      rw [if_pos he]
      by_cases hx : y.m.uid % (n : Int) = (i : Int)
      · rw [List.filter_cons_of_pos (by rw [setf_uid]; simpa using hx), List.filter_cons_of_pos (by simpa using hx), List.map_cons, List.map_cons, List.map_cons, ih, setf_uid, if_pos he, he]
      · rw [List.filter_cons_of_neg (by rw [setf_uid]; simpa using hx), List.filter_cons_of_neg (by simpa using hx), ih]
    · rw [if_neg he]
      by_cases hx : y.m.uid % (n : Int) = (i : Int)
      · rw [List.filter_cons_of_pos (by simpa using hx), List.filter_cons_of_pos (by simpa using hx), List.map_cons, List.map_cons, List.map_cons, ih, if_neg he]
      · rw [List.filter_cons_of_neg (by simpa using hx), List.filter_cons_of_neg (by simpa using hx), ih]
theorem ent_set_other {n i : Nat} {k : Int} (hk : k % (n : Int) ≠ i) (f : Int) (X : List MB) : ent n i (setX X k f) = ent n i X := by
  induction X with
  | nil => rfl
  | cons y X ih =>
    unfold ent setX at ih ⊢
    rw [List.map_cons]
    by_cases he : y.m.uid = k
    · have hx : ¬ y.m.uid % (n : Int) = (i : Int) := by rw [he]; exact hk
      rw [if_pos he, List.filter_cons_of_neg (by rw [setf_uid]; simpa using hx), List.filter_cons_of_neg (by simpa using hx), ih]
    · rw [if_neg he]
      by_cases hx : y.m.uid % (n : Int) = (i : Int)
      · rw [List.filter_cons_of_pos (by simpa using hx), List.filter_cons_of_pos (by simpa using hx), List.map_cons, List.map_cons, ih]
      · rw [List.filter_cons_of_neg (by simpa using hx), List.filter_cons_of_neg (by simpa using hx), ih]
theorem ent_other (n : Nat) {i : Nat} {X : List MB} {k : Int} (hk : k % n ≠ i) : ∀ p ∈ ent n i X, p.1 ≠ k := by
  intro p hp
  unfold ent at hp
  obtain ⟨x, hx, rfl⟩ := List.mem_map.1 hp
  have := (List.mem_filter.1 hx).2
  simp at this
  rintro rfl
  exact hk this


/-- Where a table lies: its block, its parts' slice, each part and its map; all of it in the blocks from lo up to hi. -/
structure Tb where
  tb : Nat
  pb : Nat
  c : Nat
  n : Nat
  q : Nat → Nat
  mb : Nat → Nat
  lo : Nat
  hi : Nat

/-- What an operation may turn. -/
def Tb.foot (T : Tb) (k : Nat) : Prop := T.lo ≤ k ∧ k < T.hi

/-- The table T holds the messages X; the bodies lie in rows of their own, from block base on. -/
structure TBX (base : Nat) (w : World) (T : Tb) (X : List MB) : Prop where
  hd : Blk w T.tb 62 #[.slice (some ⟨T.pb, 0, none⟩) T.n T.c]
  n0 : 0 < T.n
  n1 : T.n ≤ 16
  nc : T.n ≤ T.c
  pt : ∃ cs, Blk w T.pb 63 cs ∧ ∀ i, i < T.n → cs[i]? = some (.pointer (some ⟨T.q i, 0, none⟩))
  part : ∀ i, i < T.n → Blk w (T.q i) 72 #[.int .i32 0, .int .u32 0, .map (some (T.mb i))]
  map : ∀ i, i < T.n → HasMap uKeys w (T.mb i) (ent T.n i X)
  body : ∀ x ∈ X, Own (intE .u8) 5 base w x.bv x.m.body
  nd : (X.map fun x => x.m.uid).Nodup
  ok : ∀ x ∈ X, x.m.ok ∧ x.m.body.length ≤ 65536
  qinj : ∀ i j, i < T.n → j < T.n → T.q i = T.q j → i = j
  minj : ∀ i j, i < T.n → j < T.n → T.mb i = T.mb j → i = j
  rtb : T.foot T.tb
  rpb : T.foot T.pb
  rq : ∀ i, i < T.n → T.foot (T.q i)
  rm : ∀ i, i < T.n → T.foot (T.mb i)
  top : T.hi ≤ w.heap.size

section
variable {base : Nat} {w w' : World} {T : Tb} {X : List MB}
theorem TBX.fr {S : Nat → Prop} (h : TBX base w T X) (hf : Fr S w w') (hS : ∀ k, S k → ¬ T.foot k) (hB : ∀ v l, Own (intE .u8) 5 base w v l → ∀ b, v.ownBlock = some b → ¬ S b) : TBX base w' T X := by
  obtain ⟨cs, hp, hpi⟩ := h.pt
  exact ⟨hf.blk h.hd fun hs => hS _ hs h.rtb, h.n0, h.n1, h.nc, ⟨cs, hf.blk hp fun hs => hS _ hs h.rpb, hpi⟩, fun i hi => hf.blk (h.part i hi) fun hs => hS _ hs (h.rq i hi), fun i hi => (h.map i hi).fr hf fun hs => hS _ hs (h.rm i hi),
    fun x hx => (h.body x hx).fr hf (hB _ _ (h.body x hx)), h.nd, h.ok, h.qinj, h.minj, h.rtb, h.rpb, h.rq, h.rm, Nat.le_trans h.top hf.size⟩
theorem TBX.new (h : TBX base w T X) (hf : New w w') : TBX base w' T X := h.fr hf (fun _ h => h.elim) fun _ _ _ _ _ h => h
theorem TBX.drew (h : TBX base w T X) : TBX base w.drew T X := h.new ((New.refl w).drew)
end

end Go.Proofs.Ytjnaihhkbbeaoaa
