/- Part 13 of the proof of StripeAgrees: Sort02, RefM. -/
import Derived.Test.YtjnaihhkbbeaoaaGStripeAgreesAL
import Derived.Deep.RegionHeld3
import Derived.Deep.RegionLaw
import Derived.WalkKit
import Derived.WalkSpells
import Derived.WalkLawsBesides
import Derived.Deep.QuietTactic
import Derived.BigQuiet
import Derived.Lib.Hide

section
/- The reference's Sorted: the ascending list of the numbers that are not 0. -/
namespace Go.Proofs.Ytjnaihhkbbeaoaa
open Go.RowKit

theorem AscOf.skip {l s : List Int} {y : Int} (h : AscOf l s) (hy : y = 0 ∨ y ∈ s) : AscOf (l ++ [y]) s := by
  refine ⟨h.1, fun x => ?_⟩
  rw [h.2 x, List.mem_append, List.mem_singleton]
  constructor
  · rintro ⟨h1, h2⟩
    exact ⟨.inl h1, h2⟩
  · rintro ⟨h1 | rfl, h2⟩
    · exact ⟨h1, h2⟩
    · rcases hy with hy | hy
      · exact absurd hy h2
      · exact (h.2 x).1 hy
theorem AscOf.ins {l s : List Int} {y : Int} {k : Nat} (h : AscOf l s) (h0 : y ≠ 0) (h1 : k = 0 ∨ ∃ x, s[k - 1]? = some x ∧ x < y) (h2 : ∀ x ∈ s.drop k, y < x) : AscOf (l ++ [y]) (s.take k ++ [y] ++ s.drop k) := by
  refine ⟨h.1.put h1 h2, fun x => ?_⟩
  rw [mem_put, h.2 x, List.mem_append, List.mem_singleton]
  constructor
  · rintro (rfl | ⟨h3, h4⟩)
    · exact ⟨.inr rfl, h0⟩
    · exact ⟨.inl h3, h4⟩
  · rintro ⟨h3 | rfl, h4⟩
    · exact .inr ⟨h3, h4⟩
    · exact .inl rfl
theorem drop_more {s : List Int} {p : Nat} {x y : Int} (hp : 0 < p) (hx : s[p - 1]? = some x) (hy : y < x) (h : ∀ z ∈ s.drop p, y < z) : ∀ z ∈ s.drop (p - 1), y < z := by
  intro z hz
  have hl := (List.getElem?_eq_some_iff.1 hx).1
  rw [List.drop_eq_getElem_cons hl, (List.getElem?_eq_some_iff.1 hx).2, show p - 1 + 1 = p by omega] at hz
  rcases List.mem_cons.1 hz with rfl | hz
  · exact hy
  · exact h z hz

/-- A slice that owns its row, and is nil where it has nothing. -/
def OwnN (base : Nat) (w : World) (v : Value) (s : List Int) : Prop := Own (intE .u32) 22 base w v s ∧ (s = [] → v = .slice none 0 0)

theorem Own.empty1 {α : Type} (E : Elem α) (e : TypeId) (base : Nat) (w : World) (o : Obj) (hb : base ≤ w.heap.size) : Own E e base ((w.alloc o).alloc (.cells #[] e)) (.slice (some ⟨w.heap.size + 1, 0, none⟩) 0 0) [] := by
  have h := Own.empty E e base (w.alloc o) (by simp; omega)
  rwa [World.size_alloc] at h

set_option maxRecDepth 100000 in
set_option maxHeartbeats 6400000 in
theorem rsorted_any {v : Value} {w : World} {l : List Int} (hv : Rd (intE .u32) w v l) (hl : l.length ≤ 100000) :
    Calls Try.prog 37 #[v] w fun e w' => ∃ o s, e = .returned o ∧ Own (intE .u32) 22 w.heap.size w' o s ∧ AscOf l s ∧ s.length ≤ l.length ∧ New w w' := by
  obtain ⟨i0, hi, hz0, hz1, hz2⟩ := info_parts u32_info
  obtain ⟨A, c, rfl, hlc, hcells⟩ := hv.ints
  have HC := Lib.hid hcells
  clear hcells hv
  go_enter Try.func37, Try.ntmps37
  go_wp2
  go_loopw [3, 4] (fun vo vi wr => ∃ (k : Nat) (s : List Int), vi = .int .i64 k ∧ k ≤ l.length ∧ s.length ≤ k ∧ OwnN w.heap.size wr vo s ∧ Hid (AscOf (l.take k) s) ∧ New w wr) (fun _ vi _ => l.length - (intOf vi).toNat)
  case atStart => exact ⟨0, [], rfl, Nat.zero_le _, Nat.zero_le _, ⟨Own.nil _ _ _ _, fun _ => rfl⟩, ⟨Asc.nil, by simp⟩, New.refl _⟩
  case round =>
    obtain ⟨k, s, rfl, hk, hsk, ⟨hown, hnil⟩, HA, hnew⟩ := hrel
    have hsz := hnew.size
    obtain ⟨oA, oc, rfl, hoc⟩ := hown.form
    by_cases hlt : k < l.length
    · have hd : decide ((k : Int) < l.length) = true := decide_eq_true (by omega)
      obtain ⟨y, hy⟩ : ∃ y, l[k]? = some y := ⟨_, List.getElem?_eq_getElem hlt⟩
      obtain ⟨b, off, rfl, hcell⟩ := HC.out (by rintro rfl; simp at hlt)
      have cy : ∀ n, (wr.drewN n).cell? ⟨b, off + k, none⟩ = some (.int .u32 y) := fun n => Fr.cell hnew (hcell k y hy) id
      have hkI : (k : Int) < l.length := by omega
      have hk0 : (0 : Int) ≤ k := by omega
      have hw : IntKind.i64.wrap ((k : Int) + 1) = (k : Int) + 1 := IntWalk.i64_in _ (by omega)
      have HTK := Lib.hid (show l.take (k + 1) = l.take k ++ [y] from take_snocI hy)
      have HSC := Lib.hid (fun (g : Nat) (e : oA = some ⟨g, 0, none⟩) (j : Nat) (x : Int) (hx : s[j]? = some x) => (by subst e; exact hown.icell hx : wr.cell? ⟨g, j, none⟩ = some (.int .u32 x)))
      have HG := Lib.hid (fun (h : 0 < s.length) => hown.some1 h)
      have HO := Lib.hid hown
      have HN := Lib.hid hnil
      clear hcell hy hown hnil
      go_wp2
      obtain ⟨wo, rfl⟩ : ∃ wo : World, wo = wr := ⟨_, rfl⟩
      go_loopw [5] (fun va wx => ∃ p : Nat, va = .int .i64 p ∧ p ≤ s.length ∧ Hid (∀ x ∈ s.drop p, y < x) ∧ ∃ n, wx = wo.drewN n) (fun va _ => (intOf va).toNat)
      case atStart => exact ⟨s.length, rfl, Nat.le_refl _, by simp [Hid], 0, rfl⟩
      case round =>
        obtain ⟨p, rfl, hp, HB, n, rfl⟩ := hrel
        by_cases hp0 : p = 0
        · have hpI : decide ((0 : Int) < (p : Int)) = false := decide_eq_false (by omega)
          have hpN : decide (0 < p) = false := decide_eq_false (by omega)
          have HP0 := Lib.hid hp0
          clear hp0
          have hp1 : (p : Int) ≤ (s.length : Int) := by omega
          have hp0' : (0 : Int) ≤ (p : Int) := by omega
          have hpc : (p : Int) ≤ (oc : Int) := by omega
          cases hy0 : (y == 0)
          · have HY0 := Lib.hid (show y ≠ 0 by simpa using hy0)
            have HPX : Hid (p = 0 ∨ ∃ x, s[p - 1]? = some x ∧ x < y) := .inl HP0.out
            by_cases hs0 : s = []
            · have hnil := HN.out hs0
              injection hnil with e1 e2 e3
              have hp00 := HP0.out
              subst e1 e3 hp00 hs0
              clear HN
              go_wp2_with fail
              go_quiet (fail)
              go_wp2
              go_quiet (fail)
              go_wp2
              obtain ⟨s1, hs1⟩ : ∃ s1, ([] : List Int).take 0 = s1 := ⟨_, rfl⟩
              obtain ⟨s2, hs2⟩ : ∃ s2, s1 ++ [y] = s2 := ⟨_, rfl⟩
              obtain ⟨sd, hsd⟩ : ∃ sd, ([] : List Int).drop 0 = sd := ⟨_, rfl⟩
              obtain ⟨s3, hs3⟩ : ∃ s3, s2 ++ sd = s3 := ⟨_, rfl⟩
              have l1 : s1.length ≤ 100000 := by rw [← hs1]; simp
              have l2 : s2.length ≤ 100001 := by rw [← hs2, ← hs1]; simp
              have ld : sd.length ≤ 100000 := by rw [← hsd]; simp
              have l3 : s3.length ≤ ([] : List Int).length + 1 := by rw [← hs3, ← hs2, ← hs1, ← hsd]; simp
              have hall : AscOf (l.take (k + 1)) s3 := by
                rw [HTK.out, ← hs3, ← hs2, ← hs1, ← hsd]
                exact AscOf.ins HA.out HY0.out (.inl rfl) HB.out
              have hn3 : s3 ≠ [] := by rw [← hs3, ← hs2]; simp
              have HT : Hid (Rd (intE .u32) wo (.slice none 0 0) s1) := Lib.hid (by rw [← hs1]; simpa using Rd.nil (intE .u32) wo)
              have HD : Hid (Rd (intE .u32) wo (.slice none 0 0) sd) := Lib.hid (by rw [← hsd]; simpa using Rd.nil (intE .u32) wo)
              have HALL := Lib.hid hall
              have HN3 := Lib.hid hn3
              have HS2 := Lib.hid hs2
              have HS3 := Lib.hid hs3
              clear hs1 hs2 hsd hs3 hall hn3
              go_region_held3 (fun w' => w'.cell? ⟨b, off + k, none⟩ = some (.int .u32 y)) (first | go_keep | assumption)
                ((first
                  | (refine step_append_new (E := intE .u32) (l := []) (v := .slice (some ⟨wo.heap.size, 0, none⟩) 0 0) wo (by rfl) (.tmp 51) (.tmp 54) 38 (by rfl) Try.underlying38 hi hz0 hz1 hz2 rfl (by rfl) (by rfl) s1 ?own ?rd (by simp; unfold maxLen; omega) (by simp; omega) ?new s1 rfl ?_
                     case own => repeat' first | exact Own.empty _ _ _ _ (by simp) | exact Own.empty1 _ _ _ _ _ (by simp) | apply Own.alloc
                     case new => repeat' first | assumption | exact New.refl _ | apply Fr.alloc | apply Fr.drewN
                     case rd => exact Rd.new HT.out (by repeat' first | assumption | exact New.refl _ | apply Fr.alloc | apply Fr.drewN)
                     intro A1 c1 w1 h1 hn1 hf1
                     have hc1 : w1.cell? ⟨b, off + k, none⟩ = some (.int .u32 y) := Fr.cell hn1 (cy 0) id
                     have hb1 := Lib.hid (Fr.blk hf1.out (Blk.new1 (wo.drewN _) _ 22 #[.int .u32 y]) (by simp [Value.ownBlock])))
                  | (refine step_append_new (E := intE .u32) (l := []) (v := .slice (some ⟨wo.heap.size, 0, none⟩) 0 0) wo (by rfl) (.tmp 51) (.tmp 54) 38 (by rfl) Try.underlying38 hi hz0 hz1 hz2 rfl (by rfl) (by rfl) s1 ?own ?rd (by simp; unfold maxLen; omega) (by simp; omega) ?new s1 rfl ?_
                     case own => repeat' first | exact Own.empty _ _ _ _ (by simp) | exact Own.empty1 _ _ _ _ _ (by simp) | apply Own.alloc
                     case new => repeat' first | assumption | exact New.refl _ | apply Fr.alloc | apply Fr.drewN
                     case rd => exact Rd.new HT.out (by repeat' first | assumption | exact New.refl _ | apply Fr.alloc | apply Fr.drewN)
                     intro A1 c1 w1 h1 hn1 hf1
                     have hc1 : w1.cell? ⟨b, off + k, none⟩ = some (.int .u32 y) := Fr.cell hn1 (cy 0) id)
                  | (refine step_append_new (E := intE .u32) (l := []) (v := .slice (some ⟨wo.heap.size + 1, 0, none⟩) 0 0) wo (by rfl) (.tmp 51) (.tmp 54) 38 (by rfl) Try.underlying38 hi hz0 hz1 hz2 rfl (by rfl) (by rfl) s1 ?own ?rd (by simp; unfold maxLen; omega) (by simp; omega) ?new s1 rfl ?_
                     case own => repeat' first | exact Own.empty _ _ _ _ (by simp) | exact Own.empty1 _ _ _ _ _ (by simp) | apply Own.alloc
                     case new => repeat' first | assumption | exact New.refl _ | apply Fr.alloc | apply Fr.drewN
                     case rd => exact Rd.new HT.out (by repeat' first | assumption | exact New.refl _ | apply Fr.alloc | apply Fr.drewN)
                     intro A1 c1 w1 h1 hn1 hf1
                     have hc1 : w1.cell? ⟨b, off + k, none⟩ = some (.int .u32 y) := Fr.cell hn1 (cy 0) id
                     have hb1 := Lib.hid (Fr.blk hf1.out ((Blk.new (wo.drewN _) 22 #[.int .u32 y]).alloc _) (by simp [Value.ownBlock])))
                  | (refine step_append_new (E := intE .u32) (l := s1) wo (by rfl) (.tmp 55) (.tmp 60) 38 (by rfl) Try.underlying38 hi hz0 hz1 hz2 rfl (by rfl) (by rfl) [y] ?own ?rd (by simp; unfold maxLen; omega) (by simp; omega) ?new s2 HS2.out ?_
                     case own => repeat' first | exact h1 | apply Own.alloc
                     case new => repeat' first | assumption | exact New.refl _ | apply Fr.alloc | apply Fr.drewN
                     case rd => first | exact rd_block (intE .u32) hb1.out [y] rfl | exact rd_block (intE .u32) (Blk.new w1 22 #[.int .u32 y]) [y] rfl
                     intro A2 c2 w2 h2 hn2 hf2
                     have hc2 : w2.cell? ⟨b, off + k, none⟩ = some (.int .u32 y) := Fr.cell hn2 (cy 0) id)
                  | (refine step_append_new (E := intE .u32) (l := s2) wo (by rfl) (.tmp 61) (.tmp 64) 38 (by rfl) Try.underlying38 hi hz0 hz1 hz2 rfl (by rfl) (by rfl) sd ?own ?rd (by unfold maxLen; omega) (by omega) ?new s3 HS3.out ?_
                     case own => repeat' first | exact h2 | apply Own.alloc
                     case new => repeat' first | assumption | exact New.refl _ | apply Fr.alloc | apply Fr.drewN
                     case rd => exact Rd.new HD.out hn2
                     intro A3 c3 w3 h3 hn3 hf3
                     have hc3 : w3.cell? ⟨b, off + k, none⟩ = some (.int .u32 y) := Fr.cell hn3 (cy 0) id)
                  | fail))
              all_goals go_wp2
              all_goals go_roundw
              all_goals first
                | exact ⟨k + 1, s3, by go_num, by omega, by omega, ⟨h3.mono hsz, fun h => absurd h HN3.out⟩, HALL.out, hnew.trans hn3⟩
                | (simp [intOf]; omega)
            · obtain ⟨g, rfl⟩ := HG.out (by have := List.length_pos_iff.2 hs0; omega)
              go_wp2_with fail
              go_quiet (fail)
              go_wp2
              go_quiet (fail)
              go_wp2
              obtain ⟨s1, hs1⟩ : ∃ s1, s.take p = s1 := ⟨_, rfl⟩
              obtain ⟨s2, hs2⟩ : ∃ s2, s1 ++ [y] = s2 := ⟨_, rfl⟩
              obtain ⟨sd, hsd⟩ : ∃ sd, s.drop p = sd := ⟨_, rfl⟩
              obtain ⟨s3, hs3⟩ : ∃ s3, s2 ++ sd = s3 := ⟨_, rfl⟩
              have l1 : s1.length ≤ 100000 := by rw [← hs1, List.length_take]; omega
              have l2 : s2.length ≤ 100001 := by rw [← hs2, List.length_append]; simp; omega
              have ld : sd.length ≤ 100000 := by rw [← hsd, List.length_drop]; omega
              have l3 : s3.length ≤ s.length + 1 := by rw [← hs3, ← hs2, ← hs1, ← hsd]; simp; omega
              have hall : AscOf (l.take (k + 1)) s3 := by
                rw [HTK.out, ← hs3, ← hs2, ← hs1, ← hsd]
                exact AscOf.ins HA.out HY0.out HPX.out HB.out
              have hn3 : s3 ≠ [] := by rw [← hs3, ← hs2]; simp
              have HT := Lib.hid (hs1 ▸ Rd.take HO.out.rd hp)
              have hdr : Rd (intE .u32) wo (.slice (if oc = p then some ⟨g, 0, none⟩ else some ⟨g, p, none⟩) (s.length - p) (oc - p)) sd := by
                rw [← hsd]
                by_cases hcp : oc = p
                · rw [if_pos hcp]
                  have e0 : s.drop p = [] := List.drop_eq_nil_of_le (by omega)
                  rw [e0, show s.length - p = 0 by omega]
                  exact ⟨_, _, rfl, Nat.zero_le _, fun h => absurd rfl h⟩
                · rw [if_neg hcp]
                  have hd := Rd.drop HO.out.rd hp (oc - p) (by omega)
                  have e1 : 0 + p * (intE .u32).sz = p := by show 0 + p * 1 = p; omega
                  rwa [e1] at hd
              have HD := Lib.hid hdr
              clear hdr
              have HALL := Lib.hid hall
              have HN3 := Lib.hid hn3
              have HS2 := Lib.hid hs2
              have HS3 := Lib.hid hs3
              clear hs1 hs2 hsd hs3 hall hn3
              go_region_held3 (fun w' => w'.cell? ⟨b, off + k, none⟩ = some (.int .u32 y)) (first | go_keep | assumption)
                ((first
                  | (refine step_append_new (E := intE .u32) (l := []) (v := .slice (some ⟨wo.heap.size, 0, none⟩) 0 0) wo (by rfl) (.tmp 51) (.tmp 54) 38 (by rfl) Try.underlying38 hi hz0 hz1 hz2 rfl (by rfl) (by rfl) s1 ?own ?rd (by simp; unfold maxLen; omega) (by simp; omega) ?new s1 rfl ?_
                     case own => repeat' first | exact Own.empty _ _ _ _ (by simp) | exact Own.empty1 _ _ _ _ _ (by simp) | apply Own.alloc
                     case new => repeat' first | assumption | exact New.refl _ | apply Fr.alloc | apply Fr.drewN
                     case rd => exact Rd.new HT.out (by repeat' first | assumption | exact New.refl _ | apply Fr.alloc | apply Fr.drewN)
                     intro A1 c1 w1 h1 hn1 hf1
                     have hc1 : w1.cell? ⟨b, off + k, none⟩ = some (.int .u32 y) := Fr.cell hn1 (cy 0) id
                     have hb1 := Lib.hid (Fr.blk hf1.out (Blk.new1 (wo.drewN _) _ 22 #[.int .u32 y]) (by simp [Value.ownBlock])))
                  | (refine step_append_new (E := intE .u32) (l := []) (v := .slice (some ⟨wo.heap.size, 0, none⟩) 0 0) wo (by rfl) (.tmp 51) (.tmp 54) 38 (by rfl) Try.underlying38 hi hz0 hz1 hz2 rfl (by rfl) (by rfl) s1 ?own ?rd (by simp; unfold maxLen; omega) (by simp; omega) ?new s1 rfl ?_
                     case own => repeat' first | exact Own.empty _ _ _ _ (by simp) | exact Own.empty1 _ _ _ _ _ (by simp) | apply Own.alloc
                     case new => repeat' first | assumption | exact New.refl _ | apply Fr.alloc | apply Fr.drewN
                     case rd => exact Rd.new HT.out (by repeat' first | assumption | exact New.refl _ | apply Fr.alloc | apply Fr.drewN)
                     intro A1 c1 w1 h1 hn1 hf1
                     have hc1 : w1.cell? ⟨b, off + k, none⟩ = some (.int .u32 y) := Fr.cell hn1 (cy 0) id)
                  | (refine step_append_new (E := intE .u32) (l := []) (v := .slice (some ⟨wo.heap.size + 1, 0, none⟩) 0 0) wo (by rfl) (.tmp 51) (.tmp 54) 38 (by rfl) Try.underlying38 hi hz0 hz1 hz2 rfl (by rfl) (by rfl) s1 ?own ?rd (by simp; unfold maxLen; omega) (by simp; omega) ?new s1 rfl ?_
                     case own => repeat' first | exact Own.empty _ _ _ _ (by simp) | exact Own.empty1 _ _ _ _ _ (by simp) | apply Own.alloc
                     case new => repeat' first | assumption | exact New.refl _ | apply Fr.alloc | apply Fr.drewN
                     case rd => exact Rd.new HT.out (by repeat' first | assumption | exact New.refl _ | apply Fr.alloc | apply Fr.drewN)
                     intro A1 c1 w1 h1 hn1 hf1
                     have hc1 : w1.cell? ⟨b, off + k, none⟩ = some (.int .u32 y) := Fr.cell hn1 (cy 0) id
                     have hb1 := Lib.hid (Fr.blk hf1.out ((Blk.new (wo.drewN _) 22 #[.int .u32 y]).alloc _) (by simp [Value.ownBlock])))
                  | (refine step_append_new (E := intE .u32) (l := s1) wo (by rfl) (.tmp 55) (.tmp 60) 38 (by rfl) Try.underlying38 hi hz0 hz1 hz2 rfl (by rfl) (by rfl) [y] ?own ?rd (by simp; unfold maxLen; omega) (by simp; omega) ?new s2 HS2.out ?_
                     case own => repeat' first | exact h1 | apply Own.alloc
                     case new => repeat' first | assumption | exact New.refl _ | apply Fr.alloc | apply Fr.drewN
                     case rd => first | exact rd_block (intE .u32) hb1.out [y] rfl | exact rd_block (intE .u32) (Blk.new w1 22 #[.int .u32 y]) [y] rfl
                     intro A2 c2 w2 h2 hn2 hf2
                     have hc2 : w2.cell? ⟨b, off + k, none⟩ = some (.int .u32 y) := Fr.cell hn2 (cy 0) id)
                  | (refine step_append_new (E := intE .u32) (l := s2) wo (by rfl) (.tmp 61) (.tmp 64) 38 (by rfl) Try.underlying38 hi hz0 hz1 hz2 rfl (by rfl) (by rfl) sd ?own ?rd (by unfold maxLen; omega) (by omega) ?new s3 HS3.out ?_
                     case own => repeat' first | exact h2 | apply Own.alloc
                     case new => repeat' first | assumption | exact New.refl _ | apply Fr.alloc | apply Fr.drewN
                     case rd => exact Rd.new HD.out hn2
                     intro A3 c3 w3 h3 hn3 hf3
                     have hc3 : w3.cell? ⟨b, off + k, none⟩ = some (.int .u32 y) := Fr.cell hn3 (cy 0) id)
                  | fail))
              all_goals go_wp2
              all_goals go_roundw
              all_goals first
                | exact ⟨k + 1, s3, by go_num, by omega, by omega, ⟨h3.mono hsz, fun h => absurd h HN3.out⟩, HALL.out, hnew.trans hn3⟩
                | (simp [intOf]; omega)
          · go_wp2_with fail
            go_quiet (fail)
            go_wp2
            go_quiet (fail)
            go_wp2
            go_roundw
            case rel =>
              refine ⟨k + 1, s, by go_num, by omega, by omega, ⟨HO.out, HN.out⟩, ?_, ?_⟩
              · rw [HTK.out]; exact AscOf.skip HA.out (.inl (by simpa using hy0))
              · first | exact hnew.drewN _ | exact (hnew.drewN _).drewN _
            case measure => simp [intOf]; omega
        · have hpI : decide ((0 : Int) < (p : Int)) = true := decide_eq_true (by omega)
          have hpN : decide (0 < p) = true := decide_eq_true (by omega)
          have hp1 : IntKind.i64.wrap ((p : Int) - 1) = (p : Int) - 1 := IntWalk.i64_in _ (by omega)
          have hp2 : ((p : Int) - 1).toNat = p - 1 := by omega
          have hp3 : 0 ≤ (p : Int) - 1 := by omega
          have hp4 : (p : Int) - 1 < s.length := by omega
          obtain ⟨x, hx⟩ : ∃ x, s[p - 1]? = some x := ⟨_, List.getElem?_eq_getElem (by omega)⟩
          obtain ⟨g, rfl⟩ := HG.out (by omega)
          have cx : ∀ n, (wo.drewN n).cell? ⟨g, p - 1, none⟩ = some (.int .u32 x) := fun n => HSC.out g rfl _ _ hx
          have HX := Lib.hid hx
          clear hx
          cases hq : decide (y < x)
          · have hpc : (p : Int) ≤ (oc : Int) := by omega
            have hps : (p : Int) ≤ (s.length : Int) := by omega
            have hp0' : (0 : Int) ≤ (p : Int) := by omega
            cases hy0 : (y == 0)
            · have HY0 := Lib.hid (show y ≠ 0 by simpa using hy0)
              cases hxy : (x == y)
              · have HPX : Hid (p = 0 ∨ ∃ x, s[p - 1]? = some x ∧ x < y) := .inr ⟨x, HX.out, by
                  have h1 : ¬ y < x := by simpa using hq
                  have h2 : x ≠ y := by simpa using hxy
                  omega⟩
                go_wp2_with fail
                go_quiet (fail)
                go_wp2
                go_quiet (fail)
                go_wp2
                obtain ⟨s1, hs1⟩ : ∃ s1, s.take p = s1 := ⟨_, rfl⟩
                obtain ⟨s2, hs2⟩ : ∃ s2, s1 ++ [y] = s2 := ⟨_, rfl⟩
                obtain ⟨sd, hsd⟩ : ∃ sd, s.drop p = sd := ⟨_, rfl⟩
                obtain ⟨s3, hs3⟩ : ∃ s3, s2 ++ sd = s3 := ⟨_, rfl⟩
                have l1 : s1.length ≤ 100000 := by rw [← hs1, List.length_take]; omega
                have l2 : s2.length ≤ 100001 := by rw [← hs2, List.length_append]; simp; omega
                have ld : sd.length ≤ 100000 := by rw [← hsd, List.length_drop]; omega
                have l3 : s3.length ≤ s.length + 1 := by rw [← hs3, ← hs2, ← hs1, ← hsd]; simp; omega
                have hall : AscOf (l.take (k + 1)) s3 := by
                  rw [HTK.out, ← hs3, ← hs2, ← hs1, ← hsd]
                  exact AscOf.ins HA.out HY0.out HPX.out HB.out
                have hn3 : s3 ≠ [] := by rw [← hs3, ← hs2]; simp
                have HT := Lib.hid (hs1 ▸ Rd.take HO.out.rd hp)
                have hdr : Rd (intE .u32) wo (.slice (if oc = p then some ⟨g, 0, none⟩ else some ⟨g, p, none⟩) (s.length - p) (oc - p)) sd := by
                  rw [← hsd]
                  by_cases hcp : oc = p
                  · rw [if_pos hcp]
                    have e0 : s.drop p = [] := List.drop_eq_nil_of_le (by omega)
                    rw [e0, show s.length - p = 0 by omega]
                    exact ⟨_, _, rfl, Nat.zero_le _, fun h => absurd rfl h⟩
                  · rw [if_neg hcp]
                    have hd := Rd.drop HO.out.rd hp (oc - p) (by omega)
                    have e1 : 0 + p * (intE .u32).sz = p := by show 0 + p * 1 = p; omega
                    rwa [e1] at hd
                have HD := Lib.hid hdr
                clear hdr
                have HALL := Lib.hid hall
                have HN3 := Lib.hid hn3
                have HS2 := Lib.hid hs2
                have HS3 := Lib.hid hs3
                clear hs1 hs2 hsd hs3 hall hn3
                go_region_held3 (fun w' => w'.cell? ⟨b, off + k, none⟩ = some (.int .u32 y)) (first | go_keep | assumption)
                  ((first
                    | (refine step_append_new (E := intE .u32) (l := []) (v := .slice (some ⟨wo.heap.size, 0, none⟩) 0 0) wo (by rfl) (.tmp 51) (.tmp 54) 38 (by rfl) Try.underlying38 hi hz0 hz1 hz2 rfl (by rfl) (by rfl) s1 ?own ?rd (by simp; unfold maxLen; omega) (by simp; omega) ?new s1 rfl ?_
                       case own => repeat' first | exact Own.empty _ _ _ _ (by simp) | exact Own.empty1 _ _ _ _ _ (by simp) | apply Own.alloc
                       case new => repeat' first | assumption | exact New.refl _ | apply Fr.alloc | apply Fr.drewN
                       case rd => exact Rd.new HT.out (by repeat' first | assumption | exact New.refl _ | apply Fr.alloc | apply Fr.drewN)
                       intro A1 c1 w1 h1 hn1 hf1
                       have hc1 : w1.cell? ⟨b, off + k, none⟩ = some (.int .u32 y) := Fr.cell hn1 (cy 0) id
                       have hb1 := Lib.hid (Fr.blk hf1.out (Blk.new1 (wo.drewN _) _ 22 #[.int .u32 y]) (by simp [Value.ownBlock])))
                    | (refine step_append_new (E := intE .u32) (l := []) (v := .slice (some ⟨wo.heap.size, 0, none⟩) 0 0) wo (by rfl) (.tmp 51) (.tmp 54) 38 (by rfl) Try.underlying38 hi hz0 hz1 hz2 rfl (by rfl) (by rfl) s1 ?own ?rd (by simp; unfold maxLen; omega) (by simp; omega) ?new s1 rfl ?_
                       case own => repeat' first | exact Own.empty _ _ _ _ (by simp) | exact Own.empty1 _ _ _ _ _ (by simp) | apply Own.alloc
                       case new => repeat' first | assumption | exact New.refl _ | apply Fr.alloc | apply Fr.drewN
                       case rd => exact Rd.new HT.out (by repeat' first | assumption | exact New.refl _ | apply Fr.alloc | apply Fr.drewN)
                       intro A1 c1 w1 h1 hn1 hf1
                       have hc1 : w1.cell? ⟨b, off + k, none⟩ = some (.int .u32 y) := Fr.cell hn1 (cy 0) id)
                    | (refine step_append_new (E := intE .u32) (l := []) (v := .slice (some ⟨wo.heap.size + 1, 0, none⟩) 0 0) wo (by rfl) (.tmp 51) (.tmp 54) 38 (by rfl) Try.underlying38 hi hz0 hz1 hz2 rfl (by rfl) (by rfl) s1 ?own ?rd (by simp; unfold maxLen; omega) (by simp; omega) ?new s1 rfl ?_
                       case own => repeat' first | exact Own.empty _ _ _ _ (by simp) | exact Own.empty1 _ _ _ _ _ (by simp) | apply Own.alloc
                       case new => repeat' first | assumption | exact New.refl _ | apply Fr.alloc | apply Fr.drewN
                       case rd => exact Rd.new HT.out (by repeat' first | assumption | exact New.refl _ | apply Fr.alloc | apply Fr.drewN)
                       intro A1 c1 w1 h1 hn1 hf1
                       have hc1 : w1.cell? ⟨b, off + k, none⟩ = some (.int .u32 y) := Fr.cell hn1 (cy 0) id
                       have hb1 := Lib.hid (Fr.blk hf1.out ((Blk.new (wo.drewN _) 22 #[.int .u32 y]).alloc _) (by simp [Value.ownBlock])))
                    | (refine step_append_new (E := intE .u32) (l := s1) wo (by rfl) (.tmp 55) (.tmp 60) 38 (by rfl) Try.underlying38 hi hz0 hz1 hz2 rfl (by rfl) (by rfl) [y] ?own ?rd (by simp; unfold maxLen; omega) (by simp; omega) ?new s2 HS2.out ?_
                       case own => repeat' first | exact h1 | apply Own.alloc
                       case new => repeat' first | assumption | exact New.refl _ | apply Fr.alloc | apply Fr.drewN
                       case rd => first | exact rd_block (intE .u32) hb1.out [y] rfl | exact rd_block (intE .u32) (Blk.new w1 22 #[.int .u32 y]) [y] rfl
                       intro A2 c2 w2 h2 hn2 hf2
                       have hc2 : w2.cell? ⟨b, off + k, none⟩ = some (.int .u32 y) := Fr.cell hn2 (cy 0) id)
                    | (refine step_append_new (E := intE .u32) (l := s2) wo (by rfl) (.tmp 61) (.tmp 64) 38 (by rfl) Try.underlying38 hi hz0 hz1 hz2 rfl (by rfl) (by rfl) sd ?own ?rd (by unfold maxLen; omega) (by omega) ?new s3 HS3.out ?_
                       case own => repeat' first | exact h2 | apply Own.alloc
                       case new => repeat' first | assumption | exact New.refl _ | apply Fr.alloc | apply Fr.drewN
                       case rd => exact Rd.new HD.out hn2
                       intro A3 c3 w3 h3 hn3 hf3
                       have hc3 : w3.cell? ⟨b, off + k, none⟩ = some (.int .u32 y) := Fr.cell hn3 (cy 0) id)
                    | fail))
                all_goals go_wp2
                all_goals go_roundw
                all_goals first
                  | exact ⟨k + 1, s3, by go_num, by omega, by omega, ⟨h3.mono hsz, fun h => absurd h HN3.out⟩, HALL.out, hnew.trans hn3⟩
                  | (simp [intOf]; omega)
              · have HXY := Lib.hid (show x = y by simpa using hxy)
                go_wp2_with fail
                go_quiet (fail)
                go_wp2
                go_quiet (fail)
                go_wp2
                go_roundw
                case rel =>
                  refine ⟨k + 1, s, by go_num, by omega, by omega, ⟨HO.out, HN.out⟩, ?_, ?_⟩
                  · rw [HTK.out]; exact AscOf.skip HA.out (.inr (HXY.out ▸ List.mem_of_getElem? HX.out))
                  · first | exact hnew.drewN _ | exact (hnew.drewN _).drewN _
                case measure => simp [intOf]; omega
            · go_wp2_with fail
              go_quiet (fail)
              go_wp2
              go_quiet (fail)
              go_wp2
              go_roundw
              case rel =>
                refine ⟨k + 1, s, by go_num, by omega, by omega, ⟨HO.out, HN.out⟩, ?_, ?_⟩
                · rw [HTK.out]; exact AscOf.skip HA.out (.inl (by simpa using hy0))
                · first | exact hnew.drewN _ | exact (hnew.drewN _).drewN _
              case measure => simp [intOf]; omega
          · go_wp2_with fail
            go_quiet (fail)
            go_wp2
            go_roundw
            case rel =>
              refine ⟨p - 1, by congr 1; omega, by omega, ?_, _, rfl⟩
              exact drop_more (by omega) HX.out (by simpa using hq) HB.out
            case measure => simp [intOf]; omega
    · have hd : decide ((k : Int) < l.length) = false := decide_eq_false (by omega)
      have HO := Lib.hid hown
      have hall : AscOf l s := by
        have := HA.out
        rwa [List.take_of_length_le (by omega)] at this
      have HALL := Lib.hid hall
      clear hown hall
      go_wp2
      go_ret
      exact ⟨_, s, rfl, HO.out, HALL.out, by omega, hnew⟩

end Go.Proofs.Ytjnaihhkbbeaoaa
end

section
/- The reference of chapter 13: each function's contract. -/
namespace Go.Proofs.Ytjnaihhkbbeaoaa
open Go.RowKit

theorem findI_step {X : List MB} {k : Int} {j : Nat} {x : MB} (hx : X[j]? = some x) (hn : ∀ y ∈ X.take j, y.m.uid ≠ k) (he : x.m.uid = k) : findI (X.map MB.m) k = j := by
  unfold findI
  have hl := (List.getElem?_eq_some_iff.1 hx).1
  have : (X.map MB.m).findIdx? (fun m => decide (m.uid = k)) = some j := by
    rw [List.findIdx?_eq_some_iff_getElem]
    refine ⟨by simpa using hl, by simp [(List.getElem?_eq_some_iff.1 hx).2, he], fun q hq => ?_⟩
    simp only [List.getElem_map, Bool.not_eq_true, decide_eq_false_iff_not]
    exact hn _ (List.mem_iff_getElem?.2 ⟨q, by rw [List.getElem?_take_of_lt hq]; exact List.getElem?_eq_getElem (by omega)⟩)
  rw [this]
theorem findI_not {X : List MB} {k : Int} (hn : ∀ y ∈ X, y.m.uid ≠ k) : findI (X.map MB.m) k = -1 := by
  unfold findI
  have : (X.map MB.m).findIdx? (fun m => decide (m.uid = k)) = none := by
    rw [List.findIdx?_eq_none_iff]
    intro m hm
    obtain ⟨x, hx, rfl⟩ := List.mem_map.1 hm
    simpa using hn x hx
  rw [this]

set_option maxHeartbeats 1600000 in
theorem rfind_any {v : Value} {w : World} {X : List MB} (hv : Rd mbE w v X) (hl : X.length ≤ 100000) (k : Int) :
    Calls Try.prog 33 #[v, .int .u32 k] w fun e w' => e = .returned (.int .i64 (findI (X.map MB.m) k)) ∧ New w w' := by
  obtain ⟨A, c, rfl, hc, hcells⟩ := hv
  have HC := Lib.hid hcells
  clear hcells
  go_enter Try.func33, Try.ntmps33
  go_wp2
  go_loopw [5] (fun vi wr => ∃ j : Nat, vi = .int .i64 j ∧ j ≤ X.length ∧ Hid (∀ y ∈ X.take j, y.m.uid ≠ k) ∧ New w wr) (fun vi _ => X.length - (intOf vi).toNat)
  case atStart => exact ⟨0, rfl, Nat.zero_le _, by simp [Hid], New.refl _⟩
  case round =>
    obtain ⟨j, rfl, hj, HS, hnew⟩ := hrel
    by_cases hlt : j < X.length
    · have hd : decide ((j : Int) < X.length) = true := decide_eq_true (by omega)
      obtain ⟨x, hx⟩ : ∃ x, X[j]? = some x := ⟨_, List.getElem?_eq_getElem hlt⟩
      obtain ⟨b, off, rfl, hcell⟩ := HC.out (by rintro rfl; simp at hlt)
      have cy : wr.cell? ⟨b, off + j * 3, none⟩ = some (.int .u32 x.m.uid) := Fr.cell hnew (hcell j x hx 0 _ rfl) id
      have cyn : ∀ n, (wr.drewN n).cell? ⟨b, off + j * 3, none⟩ = some (.int .u32 x.m.uid) := fun n => cy
      have hkI : (j : Int) < X.length := by omega
      have hw : IntKind.i64.wrap ((j : Int) + 1) = (j : Int) + 1 := IntWalk.i64_in _ (by omega)
      have HX := Lib.hid hx
      clear hcell hx
      obtain ⟨u, hu⟩ : ∃ u, x.m.uid = u := ⟨_, rfl⟩
      rw [hu] at cy cyn
      have HU := Lib.hid hu
      clear hu
      cases hq : (u == k)
      · have hne : ∀ y ∈ X.take (j + 1), y.m.uid ≠ k := by
          intro y hy
          rw [List.take_add_one, HX.out] at hy
          rcases List.mem_append.1 hy with hy | hy
          · exact HS.out y hy
          · simp at hy
            subst hy
            rw [HU.out]
            simpa using hq
        have HN := Lib.hid hne
        clear hne
        go_wp2
        go_roundw
        case rel => exact ⟨j + 1, by go_num, by omega, HN.out, by first | exact hnew | exact hnew.drewN _⟩
        case measure => simp [intOf]; omega
      · have HE := Lib.hid (show findI (X.map MB.m) k = j from findI_step HX.out HS.out (by rw [HU.out]; simpa using hq))
        go_wp2
        go_ret
        exact ⟨by simp [HE.out], by first | exact hnew | exact hnew.drewN _⟩
    · have hd : decide ((j : Int) < X.length) = false := decide_eq_false (by omega)
      have HN := Lib.hid (show findI (X.map MB.m) k = -1 from findI_not (by
        have := HS.out
        rwa [List.take_of_length_le (by omega)] at this))
      go_wp2
      go_ret
      exact ⟨by simp [HN.out], by first | exact hnew | exact hnew.drewN _⟩

end Go.Proofs.Ytjnaihhkbbeaoaa
end

