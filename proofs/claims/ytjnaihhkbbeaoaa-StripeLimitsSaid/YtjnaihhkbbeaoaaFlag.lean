/- flag.Change: the flags behind a change, over a map of three functions; the reference's Change. -/
import Derived.Test.YtjnaihhkbbeaoaaMsgP
import Derived.Test.YtjnaihhkbbeaoaaMaps
import Derived.Test.YtjnaihhkbbeaoaaMore
import Derived.WalkKit
import Derived.WalkSpells
import Derived.WalkLawsBesides
import Derived.Deep.QuietTactic
import Derived.BigQuiet
import Derived.Lib.Hide
namespace Go.Proofs.Ytjnaihhkbbeaoaa
open Go.RowKit Go.Maps

section
variable {P : Program} {K : TypeId} {α : Type} [DecidableEq α] {E : KeyEnc P K α} {w : World} {b : Nat} {l : List (α × Value)}
variable {ops : Array Oper} {rest : List Oper} {o : Oper} {a : Act} {Q : Exit → Act → World → Prop}
/-- An entry of a map literal. -/
theorem wpList_ins (hg : o.guard = none) (m x v : Operand) (t e : TypeId) (hop : o.op = Op.insert t m x v) (ht : P.underlying t = some (.map K e))
    (h : HasMap E w b l) (hn : l.length < maxLen) (k : α) (hk : E.ok k) (u : Value) (hm : a.eval m = .map (some b)) (hx : a.eval x = E.kv k) (hv : a.eval v = u)
    (hK : ∀ w', HasMap E w' b (put l k u) → One b w w' → wpList P ops Q rest (a.put o.dst undef) w') : wpList P ops Q (o :: rest) a w := by
  refine wpList_plain hg fun K' hK' => ?_
  obtain ⟨w', hr, h1, h2⟩ := h.run_put ht hn hk u
  unfold Oper.wp
  simp [execOp, hop, hm, hx, hv, hr, Result.andThen]
  exact hK' _ _ (hK w' h1 h2)
end

abbrev iKeys : KeyEnc Try.prog 3 Int := intKeys Try.underlying3

theorem put_len {α : Type} [DecidableEq α] (l : List (α × Value)) (k : α) (v : Value) : (put l k v).length ≤ l.length + 1 := by
  unfold put del
  rw [List.length_cons]
  have := List.length_filter_le (fun p : α × Value => decide (p.1 ≠ k)) l
  omega
theorem put_small {α : Type} [DecidableEq α] {l : List (α × Value)} {k : α} {v : Value} (h : l.length ≤ 1000000) : (put l k v).length < maxLen := by
  have := put_len l k v
  unfold maxLen
  omega
theorem okI0 : iKeys.ok 0 := by show (Lit.int .i64 0).wf = true; decide
theorem okI1 : iKeys.ok 1 := by show (Lit.int .i64 1).wf = true; decide
theorem okI2 : iKeys.ok 2 := by show (Lit.int .i64 2).wf = true; decide

theorem zeroFn (w : World) : (zeroValue 91).run Try.prog w = .ok .nilFunc w := by kernel_rfl

set_option maxHeartbeats 400000 in
theorem set_replace (a b : Int) (w : World) : Calls Try.prog 47 #[.int .u8 a, .int .u8 b] w fun e w' => e = .returned (.int .u8 b) ∧ w = w' := by
  go_enter Try.func47, Try.ntmps47
  go_wp2
  go_ret
  exact ⟨rfl, rfl⟩
set_option maxHeartbeats 400000 in
theorem set_add (a b : Int) (w : World) : Calls Try.prog 48 #[.int .u8 a, .int .u8 b] w fun e w' => e = .returned (.int .u8 (bits .or .u8 a b)) ∧ w = w' := by
  go_enter Try.func48, Try.ntmps48
  go_wp2
  go_ret
  exact ⟨rfl, rfl⟩
set_option maxHeartbeats 400000 in
theorem set_remove (a b : Int) (w : World) : Calls Try.prog 49 #[.int .u8 a, .int .u8 b] w fun e w' => e = .returned (.int .u8 (bits .andNot .u8 a b)) ∧ w = w' := by
  go_enter Try.func49, Try.ntmps49
  go_wp2
  go_ret
  exact ⟨rfl, rfl⟩

/-- What the map of changes has. -/
def fnL : List (Int × Value) := put (put (put [] 0 (.func (.func 47) #[] #[])) 1 (.func (.func 48) #[] #[])) 2 (.func (.func 49) #[] #[])

theorem fnL_get (mode : Int) : get fnL mode = if mode = 0 then some (.func (.func 47) #[] #[]) else if mode = 1 then some (.func (.func 48) #[] #[]) else if mode = 2 then some (.func (.func 49) #[] #[]) else none := by
  unfold fnL
  by_cases h2 : mode = 2
  · subst h2; rw [get_put_same]; rfl
  · rw [get_put_other _ _ h2]
    by_cases h1 : mode = 1
    · subst h1; rw [get_put_same]; rfl
    · rw [get_put_other _ _ h1]
      by_cases h0 : mode = 0
      · subst h0; rw [get_put_same]; rfl
      · rw [get_put_other _ _ h0, if_neg h0, if_neg h1, if_neg h2]; rfl

set_option maxRecDepth 100000 in
set_option maxHeartbeats 1600000 in
/-- Change where the map has a function at the mode. -/
theorem change_at (g : Nat) (x old mode f : Int) (h1 : old ≤ 31) (h2 : f ≤ 31) (hm : (Lit.int .i64 mode).wf = true) (hE : ∀ args w, (callFunc g args).run Try.prog w = .ok (.enter g args) w)
    (hfn : ∀ w, Calls Try.prog g #[.int .u8 old, .int .u8 f] w fun e w' => e = .returned (.int .u8 x) ∧ w = w') (hg : get fnL mode = some (.func (.func g) #[] #[])) (w : World) :
    Calls Try.prog 40 #[.int .u8 old, .int .i64 mode, .int .u8 f] w fun e w' => e = .returned (.tuple #[.int .u8 x, .bool true]) ∧ New w w' := by
  have HM := Lib.hid hm
  have HG := Lib.hid hg
  have h00 := HasMap.made iKeys w
  have hmm := @run_makeMap Try.prog
  have d1 : decide (31 < old) = false := decide_eq_false (by omega)
  have d2 : decide (31 < f) = false := decide_eq_false (by omega)
  clear hm hg
  go_enter Try.func40, Try.ntmps40
  go_wp2_with (first
    | (refine wpList_ins (E := iKeys) rfl _ _ _ 95 91 rfl Try.underlying95 h00 (by unfold maxLen; simp) 0 okI0 _ rfl rfl rfl ?_; intro w1 hm1 ho1)
    | (refine wpList_ins (E := iKeys) rfl _ _ _ 95 91 rfl Try.underlying95 hm1 (put_small (by simp)) 1 okI1 _ rfl rfl rfl ?_; intro w2 hm2 ho2)
    | (refine wpList_ins (E := iKeys) rfl _ _ _ 95 91 rfl Try.underlying95 hm2 (put_small (Nat.le_trans (put_len _ _ _) (by simp))) 2 okI2 _ rfl rfl rfl ?_; intro w3 hm3 ho3
       have hlk : (Instr.lookup 95 (.map (some w.heap.size)) (.int .i64 mode) true).run Try.prog w3 = .ok (.tuple #[.func (.func g) #[] #[], .bool true]) w3 := by
         have hm3' : HasMap iKeys w3 w.heap.size fnL := hm3
         have h := hm3'.run_look_ok (t := 95) (e := 91) Try.underlying95 (zeroFn w3) HM.out
         rw [HG.out] at h
         exact h))
  refine (hfn _).mono ?_
  rintro e w4 ⟨rfl, rfl⟩
  go_wp2
  go_ret2
  have hn0 : New w (w.alloc (.map #[] 0)) := (New.refl w).alloc _
  exact ⟨rfl, New.one (New.one (New.one hn0 ho1 (Nat.le_refl _)) ho2 (Nat.le_refl _)) ho3 (Nat.le_refl _)⟩

set_option maxRecDepth 100000 in
set_option maxHeartbeats 1600000 in
theorem change_other (old mode f : Int) (h1 : old ≤ 31) (h2 : f ≤ 31) (hm : (Lit.int .i64 mode).wf = true) (hg : get fnL mode = none) (w : World) :
    Calls Try.prog 40 #[.int .u8 old, .int .i64 mode, .int .u8 f] w fun e w' => e = .returned (.tuple #[.int .u8 0, .bool false]) ∧ New w w' := by
  have HM := Lib.hid hm
  have HG := Lib.hid hg
  have h00 := HasMap.made iKeys w
  have hmm := @run_makeMap Try.prog
  have d1 : decide (31 < old) = false := decide_eq_false (by omega)
  have d2 : decide (31 < f) = false := decide_eq_false (by omega)
  clear hm hg
  go_enter Try.func40, Try.ntmps40
  go_wp2_with (first
    | (refine wpList_ins (E := iKeys) rfl _ _ _ 95 91 rfl Try.underlying95 h00 (by unfold maxLen; simp) 0 okI0 _ rfl rfl rfl ?_; intro w1 hm1 ho1)
    | (refine wpList_ins (E := iKeys) rfl _ _ _ 95 91 rfl Try.underlying95 hm1 (put_small (by simp)) 1 okI1 _ rfl rfl rfl ?_; intro w2 hm2 ho2)
    | (refine wpList_ins (E := iKeys) rfl _ _ _ 95 91 rfl Try.underlying95 hm2 (put_small (Nat.le_trans (put_len _ _ _) (by simp))) 2 okI2 _ rfl rfl rfl ?_; intro w3 hm3 ho3
       have hlk : (Instr.lookup 95 (.map (some w.heap.size)) (.int .i64 mode) true).run Try.prog w3 = .ok (.tuple #[.nilFunc, .bool false]) w3 := by
         have hm3' : HasMap iKeys w3 w.heap.size fnL := hm3
         have h := hm3'.run_look_ok (t := 95) (e := 91) Try.underlying95 (zeroFn w3) HM.out
         rw [HG.out] at h
         exact h))
  go_ret2
  have hn0 : New w (w.alloc (.map #[] 0)) := (New.refl w).alloc _
  exact ⟨rfl, New.one (New.one (New.one hn0 ho1 (Nat.le_refl _)) ho2 (Nat.le_refl _)) ho3 (Nat.le_refl _)⟩

set_option maxRecDepth 100000 in
set_option maxHeartbeats 1600000 in
theorem change_big (old mode f : Int) (h : 31 < old ∨ 31 < f) (w : World) :
    Calls Try.prog 40 #[.int .u8 old, .int .i64 mode, .int .u8 f] w fun e w' => e = .returned (.tuple #[.int .u8 0, .bool false]) ∧ New w w' := by
  by_cases h1 : 31 < old
  · clear h
    go_enter Try.func40, Try.ntmps40
    go_wp2
    go_ret2
    exact ⟨rfl, New.refl _⟩
  · have h2 : 31 < f := h.resolve_left h1
    clear h
    go_enter Try.func40, Try.ntmps40
    go_wp2
    go_ret2
    exact ⟨rfl, New.refl _⟩

theorem change_any (old mode f : Int) (ho : 0 ≤ old ∧ old ≤ 255) (hf : 0 ≤ f ∧ f ≤ 255) (hm : (Lit.int .i64 mode).wf = true) (w : World) :
    Calls Try.prog 40 #[.int .u8 old, .int .i64 mode, .int .u8 f] w fun e w' => e = .returned (.tuple #[.int .u8 ((chg old mode f).getD 0), .bool (chg old mode f).isSome]) ∧ New w w' := by
  by_cases h1 : 31 < old ∨ 31 < f
  · rw [show chg old mode f = none from if_pos h1]
    exact change_big old mode f h1 w
  · have hg := fnL_get mode
    have hc : chg old mode f = if mode = 0 then some f else if mode = 1 then some (orI old f) else if mode = 2 then some (andnI old f) else none := if_neg h1
    rw [hc]
    by_cases e0 : mode = 0
    · rw [if_pos e0] at hg ⊢
      exact change_at 47 f old mode f (by omega) (by omega) hm (enters _ _ _ Try.func47 (by kernel_rfl) rfl) (set_replace old f) hg w
    · rw [if_neg e0] at hg ⊢
      by_cases e1 : mode = 1
      · rw [if_pos e1] at hg ⊢
        exact change_at 48 (orI old f) old mode f (by omega) (by omega) hm (enters _ _ _ Try.func48 (by kernel_rfl) rfl) (by rw [← u8_orI ho.1 ho.2 hf.1 hf.2]; exact set_add old f) hg w
      · rw [if_neg e1] at hg ⊢
        by_cases e2 : mode = 2
        · rw [if_pos e2] at hg ⊢
          exact change_at 49 (andnI old f) old mode f (by omega) (by omega) hm (enters _ _ _ Try.func49 (by kernel_rfl) rfl) (by rw [← u8_andnI ho.1 ho.2 hf.1 hf.2]; exact set_remove old f) hg w
        · rw [if_neg e2] at hg ⊢
          exact change_other old mode f (by omega) (by omega) hm hg w

set_option maxHeartbeats 400000 in
/-- The reference's Change. -/
theorem rchange_any (old mode f : Int) (ho : 0 ≤ old ∧ old ≤ 255) (hf : 0 ≤ f ∧ f ≤ 255) (w : World) :
    Calls Try.prog 46 #[.int .i64 old, .int .i64 mode, .int .i64 f] w fun e w' => e = .returned (.int .i64 ((chg old mode f).getD (-1))) ∧ w = w' := by
  by_cases h1 : 31 < old
  · rw [show chg old mode f = none from if_pos (.inl h1)]
    go_enter Try.func46, Try.ntmps46
    go_wp2
    go_ret
    exact ⟨rfl, rfl⟩
  · by_cases h2 : 31 < f
    · rw [show chg old mode f = none from if_pos (.inr h2)]
      go_enter Try.func46, Try.ntmps46
      go_wp2
      go_ret
      exact ⟨rfl, rfl⟩
    · have hc : chg old mode f = if mode = 0 then some f else if mode = 1 then some (orI old f) else if mode = 2 then some (andnI old f) else none := if_neg (by omega)
      rw [hc, ← i64_orI ho.1 (by omega) hf.1 (by omega), ← i64_andnI ho.1 (by omega) hf.1 (by omega)]
      clear hc
      by_cases e0 : mode = 0
      · subst e0
        go_enter Try.func46, Try.ntmps46
        go_wp2
        go_ret
        exact ⟨rfl, rfl⟩
      · rw [if_neg e0]
        have d0 : (mode == 0) = false := by simp [e0]
        by_cases e1 : mode = 1
        · subst e1
          go_enter Try.func46, Try.ntmps46
          go_wp2
          go_ret
          exact ⟨rfl, rfl⟩
        · rw [if_neg e1]
          have d1 : (mode == 1) = false := by simp [e1]
          by_cases e2 : mode = 2
          · subst e2
            go_enter Try.func46, Try.ntmps46
            go_wp2
            go_ret
            exact ⟨rfl, rfl⟩
          · rw [if_neg e2]
            have d2 : (mode == 2) = false := by simp [e2]
            go_enter Try.func46, Try.ntmps46
            go_wp2
            go_ret
            exact ⟨rfl, rfl⟩

end Go.Proofs.Ytjnaihhkbbeaoaa
