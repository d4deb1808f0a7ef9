/- The round of the library's pattern-defeating quicksort, its values by letters. Plain; of no program. -/
import Derived.Sort.AssemblyPlain
import Derived.Sort.Walk13a
namespace Go.Proofs.Ytjnaihhkbbeaoaa
open Go.Sort

/-- What one round of the loop reckons ahead of its partition, and what the partition's outcome makes of the whole. -/
structure RdF (dk : Array Int) (a b lim : Nat) (wb wp : Bool) (d1 : Array Int) (lm c : Nat) (ch : Hint) (d2 : Array Int) (pv : Nat) (ht : Hint) (d3 : Array Int) (dn : Bool) : Prop where
  s1 : d1.size = dk.size
  brk : wb = false → breakPatterns dk a b = d1 ∧ lm = lim - 1
  bal : wb = true → dk = d1 ∧ lm = lim
  lm_le : lm ≤ lim
  cp : choosePivot ltInt d1 a b = (c, ch)
  c_lo : a ≤ c
  c_hi : c < b
  s2 : d2.size = dk.size
  dec : ch = .decreasing → reverseRange d1 a b = d2 ∧ pv = (b - 1) - (c - a) ∧ ht = .increasing
  ndec : ch ≠ .decreasing → d1 = d2 ∧ pv = c ∧ ht = ch
  p_lo : a ≤ pv
  p_hi : pv < b
  par : (wb && wp && decide (ht = .increasing)) = true → partialInsertionSort ltInt d2 a b = (d3, dn)
  npar : (wb && wp && decide (ht = .increasing)) = false → d2 = d3 ∧ dn = false
  s3 : d3.size = dk.size
  bel : Below ltInt a b d3
  fin : dn = true → pdq ltInt dk a b lim wb wp = d3
  eq_ : dn = false → (decide (a > 0) && !ltInt d3[a - 1]! d3[pv]!) = true → ∀ mid d4, partitionEqual ltInt d3 a b pv = (mid, d4) →
    a < mid ∧ mid ≤ b ∧ d4.size = dk.size ∧ Below ltInt mid b d4 ∧ pdq ltInt dk a b lim wb wp = pdq ltInt d4 mid b lm wb wp
  part : dn = false → (decide (a > 0) && !ltInt d3[a - 1]! d3[pv]!) = false → ∀ mid ap d4, partition ltInt d3 a b pv = (mid, ap, d4) →
    a ≤ mid ∧ mid < b ∧ d4.size = dk.size ∧
    (mid - a < b - mid → Below ltInt a mid d4 ∧ (pdq ltInt d4 a mid lm true true).size = dk.size ∧ Below ltInt (mid + 1) b (pdq ltInt d4 a mid lm true true) ∧
      pdq ltInt dk a b lim wb wp = pdq ltInt (pdq ltInt d4 a mid lm true true) (mid + 1) b lm (decide (mid - a ≥ (b - a) / 8)) ap) ∧
    (¬ mid - a < b - mid → Below ltInt (mid + 1) b d4 ∧ (pdq ltInt d4 (mid + 1) b lm true true).size = dk.size ∧ Below ltInt a mid (pdq ltInt d4 (mid + 1) b lm true true) ∧
      pdq ltInt dk a b lim wb wp = pdq ltInt (pdq ltInt d4 (mid + 1) b lm true true) a mid lm (decide (b - mid ≥ (b - a) / 8)) ap)

theorem RdF.make (dk : Array Int) (a b lim : Nat) (wb wp : Bool) (h12 : ¬ b - a ≤ 12) (hl0 : ¬ lim = 0) (hb : b ≤ dk.size) (hB : Below ltInt a b dk) :
    ∃ d1 lm c ch d2 pv ht d3 dn, RdF dk a b lim wb wp d1 lm c ch d2 pv ht d3 dn := by
  obtain ⟨s1, _, hc, s2, _, hpv, s3, B3⟩ := rd_facts (limit := lim) (wb := wb) (wp := wp) swo_ltInt partialInsertionSort_holds reverseRange_holds (show a < b by omega) hb hB
  refine ⟨(rd ltInt dk a b lim wb wp).d1, (rd ltInt dk a b lim wb wp).lim, (rd ltInt dk a b lim wb wp).c.1, (rd ltInt dk a b lim wb wp).c.2, (rd ltInt dk a b lim wb wp).d2, (rd ltInt dk a b lim wb wp).pivot, (rd ltInt dk a b lim wb wp).hint, (rd ltInt dk a b lim wb wp).pi.1, (rd ltInt dk a b lim wb wp).pi.2, ?_⟩
  refine ⟨s1, fun h => ?_, fun h => ?_, rd_lim_le, rd_c.symm, hc.1, hc.2, s2, fun h => ?_, fun h => ?_, hpv.1, hpv.2, fun h => ?_, fun h => ?_, s3, B3, fun h => pdq_done h12 hl0 h, fun h1 h2 mid d4 hx => ?_, fun h1 h2 mid ap d4 hx => ?_⟩
  · subst h; exact ⟨rfl, rfl⟩
  · subst h; exact ⟨rfl, rfl⟩
  · obtain ⟨e1, e2, e3⟩ := rd_dec h
    exact ⟨e1.symm, e2, e3⟩
  · obtain ⟨e1, e2, e3⟩ := rd_not h
    exact ⟨e1.symm, e2, e3⟩
  · exact (rd_pi_yes h).symm
  · have := rd_pi_no h
    rw [this]; exact ⟨rfl, rfl⟩
  · have h2' := h2
    simp only [Bool.and_eq_true, decide_eq_true_eq, Bool.not_eq_true'] at h2'
    obtain ⟨r1, r2, r3, r4, _⟩ := round_eq swo_ltInt (partitionEqual_holds ltInt) h2'.1 hpv.1 hpv.2 (by rw [s3]; exact hb) B3 h2'.2 hx
    exact ⟨r1, r2, r3.trans s3, r4, by rw [pdq_eq h12 hl0 h1 h2 (by rw [hx]; exact ⟨r1, r2⟩), hx]⟩
  · obtain ⟨r1, r2, r3, r4, r5, r6, r7⟩ := round_part swo_ltInt (partition_holds ltInt) hpv.1 hpv.2 (by rw [s3]; exact hb) B3 hx
    have hd4 : d4.size = dk.size := r3.trans s3
    refine ⟨r1, r2, hd4, fun h4 => ?_, fun h4 => ?_⟩
    · obtain ⟨pL, sL⟩ := pdq_sorts ltInt swo_ltInt d4 a mid (rd ltInt dk a b lim wb wp).lim true true r1 (by omega) r4
      exact ⟨r4, by rw [pL.1]; exact hd4, (r6 _ pL sL).1, by rw [pdq_left h12 hl0 h1 h2 (by rw [hx]; exact ⟨r1, r2⟩) (by rw [hx]; exact h4), hx]⟩
    · obtain ⟨pL, sL⟩ := pdq_sorts ltInt swo_ltInt d4 (mid + 1) b (rd ltInt dk a b lim wb wp).lim true true (by omega) (by omega) r5
      exact ⟨r5, by rw [pL.1]; exact hd4, (r7 _ pL sL).1, by rw [pdq_right h12 hl0 h1 h2 (by rw [hx]; exact ⟨r1, r2⟩) (by rw [hx]; exact h4), hx]⟩

end Go.Proofs.Ytjnaihhkbbeaoaa
