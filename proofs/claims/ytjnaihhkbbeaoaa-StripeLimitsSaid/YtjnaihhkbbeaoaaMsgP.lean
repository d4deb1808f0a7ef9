/- Messages, and what a table of them answers: plain definitions and lemmas; of no program. -/
import Derived.Test.YtjnaihhkbbeaoaaWords
import Derived.Laws.BitsAllLaws
namespace Go.Proofs.Ytjnaihhkbbeaoaa
open Go.RowKit

/-- A message: its identifier, its flags, its body's bytes. -/
structure Msg where
  uid : Int
  fl : Int
  body : List Int
  deriving DecidableEq

/-- Each number fits its kind. -/
def Msg.wf (m : Msg) : Prop := (0 ≤ m.uid ∧ m.uid ≤ 4294967295) ∧ (0 ≤ m.fl ∧ m.fl ≤ 255)
/-- A message that a table keeps. -/
def Msg.ok (m : Msg) : Prop := (1 ≤ m.uid ∧ m.uid ≤ 4294967295) ∧ (0 ≤ m.fl ∧ m.fl ≤ 31)

def msg0 : Msg := ⟨0, 0, []⟩

/-- The message with an identifier. -/
def findM (M : List Msg) (k : Int) : Option Msg := M.find? fun m => decide (m.uid = k)
/-- Where it stands, or -1. -/
def findI (M : List Msg) (k : Int) : Int := match M.findIdx? fun m => decide (m.uid = k) with | some i => i | none => -1

def putC (M : List Msg) (m : Msg) : Int := if m.uid = 0 ∨ 31 < m.fl ∨ 65536 < m.body.length then 2 else if (findM M m.uid).isSome then 8 else 0
def putM (M : List Msg) (m : Msg) : List Msg := if putC M m = 0 then M ++ [m] else M

def andI (a b : Int) : Int := ((a.toNat &&& b.toNat : Nat) : Int)
def orI (a b : Int) : Int := ((a.toNat ||| b.toNat : Nat) : Int)
def andnI (a b : Int) : Int := ((a.toNat &&& (255 - b.toNat) : Nat) : Int)

/-- The flags behind a change. -/
def chg (old mode f : Int) : Option Int := if 31 < old ∨ 31 < f then none else if mode = 0 then some f else if mode = 1 then some (orI old f) else if mode = 2 then some (andnI old f) else none

/-- The flags, the code, the messages behind a change of flags. -/
def flX (M : List Msg) (k mode f : Int) : Int := match findM M k with | none => 0 | some m => (chg m.fl mode f).getD 0
def flC (M : List Msg) (k mode f : Int) : Int := match findM M k with | none => 7 | some m => if (chg m.fl mode f).isSome then 0 else 2
def setF (M : List Msg) (k x : Int) : List Msg := M.map fun m => if m.uid = k then { m with fl := x } else m
def flM (M : List Msg) (k mode f : Int) : List Msg := if flC M k mode f = 0 then setF M k (flX M k mode f) else M

def remM (M : List Msg) (k : Int) : List Msg := M.filter fun m => decide (m.uid ≠ k)

/-- The identifiers of the messages with some flags, in the messages' order. -/
def withL (M : List Msg) (f : Int) : List Int := (M.filter fun m => decide (andI m.fl f = f)).map Msg.uid

/-- The messages of stripe i of n. -/
def strM (n : Nat) (i : Nat) (M : List Msg) : List Msg := M.filter fun m => decide (m.uid % n = i)
def sizesM (n : Nat) (M : List Msg) : List Int := (List.range n).map fun i => ((strM n i M).length : Int)

theorem findM_mem {M : List Msg} {k : Int} {m : Msg} (h : findM M k = some m) : m ∈ M ∧ m.uid = k := by
  unfold findM at h
  refine ⟨List.mem_of_find?_eq_some h, ?_⟩
  simpa using List.find?_some h
theorem findM_none {M : List Msg} {k : Int} : findM M k = none ↔ ∀ m ∈ M, m.uid ≠ k := by
  unfold findM
  rw [List.find?_eq_none]
  simp
theorem findM_of_mem {M : List Msg} (hnd : (M.map Msg.uid).Nodup) {m : Msg} (h : m ∈ M) : findM M m.uid = some m := by
  induction M with
  | nil => cases h
  | cons p M ih =>
    rw [List.map_cons, List.nodup_cons] at hnd
    unfold findM at ih ⊢
    rw [List.find?_cons]
    rcases List.mem_cons.1 h with rfl | h'
    · simp
    · have : p.uid ≠ m.uid := fun e => hnd.1 (by rw [e]; exact List.mem_map.2 ⟨m, h', rfl⟩)
      simp [this, ih hnd.2 h']
theorem findI_nonneg {M : List Msg} {k : Int} : 0 ≤ findI M k ↔ (findM M k).isSome = true := by
  unfold findI findM
  rw [List.find?_isSome]
  cases h : M.findIdx? fun m => decide (m.uid = k) with
  | none =>
    rw [List.findIdx?_eq_none_iff] at h
    simp at h ⊢
    exact h
  | some i =>
    obtain ⟨hl, hp, _⟩ := List.findIdx?_eq_some_iff_getElem.1 h
    simp
    exact ⟨M[i], List.getElem_mem hl, by simpa using hp⟩
theorem findI_get {M : List Msg} {k : Int} {i : Nat} (h : findI M k = i) : M[i]? = findM M k ∧ i < M.length := by
  unfold findI at h
  unfold findM
  cases h2 : M.findIdx? fun m => decide (m.uid = k) with
  | none => rw [h2] at h; simp at h
  | some j =>
    rw [h2] at h
    have : j = i := by have h : (j : Int) = (i : Int) := h; omega
    subst this
    obtain ⟨hl, hp, hb⟩ := List.findIdx?_eq_some_iff_getElem.1 h2
    refine ⟨?_, hl⟩
    rw [List.getElem?_eq_getElem hl]
    symm
    rw [List.find?_eq_some_iff_getElem]
    exact ⟨hp, j, hl, rfl, fun q hq => by simpa using hb q hq⟩

theorem nodup_put {M : List Msg} {m : Msg} (h : (M.map Msg.uid).Nodup) (hn : findM M m.uid = none) : ((M ++ [m]).map Msg.uid).Nodup := by
  rw [List.map_append, List.nodup_append]
  refine ⟨h, by simp, fun a ha b hb => ?_⟩
  simp at hb
  subst hb
  obtain ⟨x, hx, rfl⟩ := List.mem_map.1 ha
  exact findM_none.1 hn x hx
theorem setF_uid (M : List Msg) (k x : Int) : (setF M k x).map Msg.uid = M.map Msg.uid := by
  unfold setF
  rw [List.map_map]
  refine List.map_congr_left fun m _ => ?_
  simp only [Function.comp]
  split <;> rfl
theorem nodup_rem {M : List Msg} (k : Int) (h : (M.map Msg.uid).Nodup) : ((remM M k).map Msg.uid).Nodup := h.sublist (List.Sublist.map _ List.filter_sublist)

theorem u8_orI {a b : Int} (h1 : 0 ≤ a) (h2 : a ≤ 255) (h3 : 0 ≤ b) (h4 : b ≤ 255) : bits .or .u8 a b = orI a b := u8_or a b h1 (by omega) h3 (by omega)
theorem u8_andI {a b : Int} (h1 : 0 ≤ a) (h2 : a ≤ 255) (h3 : 0 ≤ b) (h4 : b ≤ 255) : bits .and .u8 a b = andI a b := u8_and a b h1 (by omega) h3 (by omega)
theorem u8_andnI {a b : Int} (h1 : 0 ≤ a) (h2 : a ≤ 255) (h3 : 0 ≤ b) (h4 : b ≤ 255) : bits .andNot .u8 a b = andnI a b := u8_andNot a b h1 (by omega) h3 (by omega)

theorem nat31 (a : Nat) (h : a ≤ 31) : a < 2 ^ 5 := by omega
theorem orI_le {a b : Int} (h2 : a ≤ 31) (h4 : b ≤ 31) : 0 ≤ orI a b ∧ orI a b ≤ 31 := by
  unfold orI
  have := Nat.or_lt_two_pow (nat31 a.toNat (by omega)) (nat31 b.toNat (by omega))
  omega
theorem andnI_le {a b : Int} (h2 : a ≤ 31) : 0 ≤ andnI a b ∧ andnI a b ≤ 31 := by
  unfold andnI
  have := @Nat.and_le_left a.toNat (255 - b.toNat)
  omega
theorem chg_ok {old mode f x : Int} (h : chg old mode f = some x) (hf0 : 0 ≤ f) : 0 ≤ x ∧ x ≤ 31 := by
  unfold chg at h
  split at h
  · cases h
  · split at h
    · cases h; omega
    · split at h
      · cases h; exact orI_le (by omega) (by omega)
      · split at h
        · cases h; exact andnI_le (by omega)
        · cases h
theorem i64_orI {a b : Int} (h1 : 0 ≤ a) (h2 : a ≤ 31) (h3 : 0 ≤ b) (h4 : b ≤ 31) : bits .or .i64 a b = orI a b := by
  obtain ⟨A, rfl⟩ := Int.eq_ofNat_of_zero_le h1
  obtain ⟨B, rfl⟩ := Int.eq_ofNat_of_zero_le h3
  have h : ∀ A : Fin 32, ∀ B : Fin 32, bits .or .i64 ((A.val : Nat) : Int) ((B.val : Nat) : Int) = orI ((A.val : Nat) : Int) ((B.val : Nat) : Int) := by decide +kernel
  exact h ⟨A, by omega⟩ ⟨B, by omega⟩
theorem i64_andnI {a b : Int} (h1 : 0 ≤ a) (h2 : a ≤ 31) (h3 : 0 ≤ b) (h4 : b ≤ 31) : bits .andNot .i64 a b = andnI a b := by
  obtain ⟨A, rfl⟩ := Int.eq_ofNat_of_zero_le h1
  obtain ⟨B, rfl⟩ := Int.eq_ofNat_of_zero_le h3
  have h : ∀ A : Fin 32, ∀ B : Fin 32, bits .andNot .i64 ((A.val : Nat) : Int) ((B.val : Nat) : Int) = andnI ((A.val : Nat) : Int) ((B.val : Nat) : Int) := by decide +kernel
  exact h ⟨A, by omega⟩ ⟨B, by omega⟩

end Go.Proofs.Ytjnaihhkbbeaoaa
