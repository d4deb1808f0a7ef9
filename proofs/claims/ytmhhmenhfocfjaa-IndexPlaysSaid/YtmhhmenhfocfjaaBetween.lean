/- An index: Between. -/
import Derived.Test.YtmhhmenhfocfjaaFrom
import Derived.Test.YtmhhmenhfocfjaaCollectU
namespace Go.Proofs.Ytmhhmenhfocfjaa
open Go.RowKit Go.Shelf Go.Proofs
attribute [local go_sem] Oper.semAt_some

/-- What Between hands back, where lo would stand at place k. -/
def betOf (l : List Int) (hi : Int) (k : Nat) : List Int := (l.drop k).takeWhile fun y => decide (y ≤ hi)

theorem takeWhile_all {p : Int → Bool} {l : List Int} (h : ∀ y ∈ l, p y = true) : l.takeWhile p = l := by
  induction l with
  | nil => rfl
  | cons x l ih => rw [List.takeWhile_cons, if_pos (h x (by simp)), ih fun y hy => h y (by simp [hy])]
theorem takeWhile_stop {p : Int → Bool} {l m : List Int} {u : Int} (h : ∀ y ∈ l, p y = true) (hu : p u = false) : (l ++ u :: m).takeWhile p = l := by
  induction l with
  | nil => simp [hu]
  | cons x l ih => rw [List.cons_append, List.takeWhile_cons, if_pos (h x (by simp)), ih fun y hy => h y (by simp [hy])]

set_option maxHeartbeats 400000 in
theorem between_nil (lo hi : Int) (w : World) : Calls Try.prog 21 #[.pointer none, .int .u32 lo, .int .u32 hi] w fun e w' => e = .returned (.slice none 0 0) ∧ New w w' := by
  go_enter Try.func21, Try.ntmps21
  go_wp2
  go_ret
  exact ⟨rfl, (New.refl w).alloc _⟩

set_option maxRecDepth 100000 in
set_option maxHeartbeats 4000000 in
theorem between_any {base x : Nat} {u : Value} {zs : List Int} {w : World} (h : IdxU base w x u zs) (hlen : zs.length ≤ 100000) (lo hi : Int) :
    Calls Try.prog 21 #[.pointer (some ⟨x, 0, none⟩), .int .u32 lo, .int .u32 hi] w fun e w' => ∃ k o, e = .returned o ∧ FindAt zs lo k ∧ Go.Proofs.Ytmhhmenhfocfjaa.Own (intE .u32) 28 w.heap.size w' o (betOf zs hi k) ∧ New w w' := by
  obtain ⟨i0, hi0, hz0, hz1, hz2⟩ := info_parts u32_info
  have H := Lib.hid h
  clear h
  refine (callsIn_wide (n := 6)).1 ?_
  refine callsIn_of_wp_marks Try.func21 rfl trivial ?_ rfl
  simp only [Try.ntmps21, List.size_toArray, List.length_cons, List.length_nil, Nat.reduceAdd, Nat.reduceSub, Array.replicate_succ, Array.replicate_zero, List.push_toArray, List.append_toArray, List.nil_append, List.cons_append]
  gi_wp2_with fail
  refine ⟨trivial, ((callsIn_wide).2 (from_any _ ⟨_, rfl⟩ lo _)).mono ?_⟩
  rintro e w1 ⟨rfl, hw1⟩
  have bH := ((((Boxed.new w 28 (.int .u32 hi)).alloc (.cells #[.slice none 0 0] 22)).alloc (.cells #[.pointer (some ⟨x, 0, none⟩)] 25)).alloc (.cells #[.int .u32 lo] 28))
  have bO := (((Boxed.new (w.alloc (.cells #[.int .u32 hi] 28)) 22 (.slice none 0 0)).alloc (.cells #[.pointer (some ⟨x, 0, none⟩)] 25)).alloc (.cells #[.int .u32 lo] 28))
  have bX := (Boxed.new ((w.alloc (.cells #[.int .u32 hi] 28)).alloc (.cells #[.slice none 0 0] 22)) 25 (.pointer (some ⟨x, 0, none⟩))).alloc (.cells #[.int .u32 lo] 28)
  have bL := Boxed.new (((w.alloc (.cells #[.int .u32 hi] 28)).alloc (.cells #[.slice none 0 0] 22)).alloc (.cells #[.pointer (some ⟨x, 0, none⟩)] 25)) 28 (.int .u32 lo)
  have hn1 : New w w1 := by rw [hw1]; exact ((((New.refl w).alloc _).alloc _).alloc _).alloc _
  rw [← hw1] at bH bO bX bL
  have hs1 : w1.heap.size = w.heap.size + 4 := by rw [hw1]; simp
  simp only [World.size_alloc] at bO bX bL
  have H1 := Lib.hid (H.out.new hn1)
  have HLOW := Lib.hid (fun b hb => Nat.lt_succ_of_lt (H.out.2.1.block (b := b) hb).2)
  obtain ⟨n0, hn0⟩ : ∃ n0, w.heap.size = n0 := ⟨_, rfl⟩
  simp only [World.size_alloc]
  rw [hn0] at bH bO bX bL hs1 HLOW ⊢
  clear hw1
  gi_wp2
  refine wpIn_rangeFunc_ownG (F := Fence.wide) rfl (by omega) (gf := 35) (lb := #[.pointer (some ⟨n0 + 2, 0, none⟩), .pointer (some ⟨n0 + 3, 0, none⟩)]) rfl trivial (enters_of Try.func35 (by kernel_rfl) rfl)
    (from_stops (base := base) (x := x) (lo := lo) (u := u) (zs := zs) _ (by omega) (n0 + 2) (n0 + 3) (n0 + 1) hlen w1 bX.cell bL.cell H1.out HLOW.out) belowK_t (belowK_b (by omega)) (Below.refl _ _) (fun _ => rfl)
    (fun pre W => (∃ v, Boxed W (n0 + 1) 22 v ∧ W.ownsRow (n0 + 1) 28 1 v pre.length (pre.map (Value.int .u32)) ∧ ∀ y ∈ pre, y ≤ hi) ∧ Below (n0 + 1) w1 W)
    (fun c pre W => c = .exit 0 ∧ ∃ pre0 y, pre = pre0 ++ [y] ∧ hi < y ∧ (∃ v, Boxed W (n0 + 1) 22 v ∧ W.ownsRow (n0 + 1) 28 1 v pre0.length (pre0.map (Value.int .u32)) ∧ ∀ y ∈ pre0, y ≤ hi) ∧ Below (n0 + 1) w1 W)
    (OwnFrom.and (Own.from (holdsRow_own (n0 + 1) (n0 + 1) 22 28 1 (fun pre : List Int => pre.length) (fun pre => pre.map (Value.int .u32)) (fun pre _ => ∀ y ∈ pre, y ≤ hi)) _) (ownFrom_below (by omega) (by omega)))
    (fun c s A B row ⟨hc, pre0, y, e1, e2, h1, h2⟩ hg hr => ⟨hc, pre0, y, e1, e2,
      (OwnFrom.and (Own.from (holdsRow_own (n0 + 1) (n0 + 1) 22 28 1 (fun pre : List Int => pre.length) (fun pre => pre.map (Value.int .u32)) (fun pre _ => ∀ y ∈ pre, y ≤ hi)) w1.heap.size) (ownFrom_below (β := List Int) (n₀ := n0 + 1) (w₀ := w1) (by omega) (by omega))) pre0 A B row ⟨h1, h2⟩ hg hr⟩)
    ⟨⟨_, bO, World.ownsRow_nil _ _ _ _, by simp⟩, Below.refl _ _⟩
    (fun y => { tmps := #[.pointer (some ⟨x, 0, none⟩), .int .u32 lo, .int .u32 hi, undef, undef, .pointer (some ⟨n0, 0, none⟩), .slice none 0 0, .pointer (some ⟨n0 + 1, 0, none⟩), .int .u32 y, .pointer (some ⟨x, 0, none⟩), .bool false, .pointer (some ⟨x, 0, none⟩), .int .u32 lo,
      .func (.func 35) #[] #[.pointer (some ⟨n0 + 1 + 1, 0, none⟩), .pointer (some ⟨n0 + 1 + 1 + 1, 0, none⟩)], .int .u32 y, undef, undef, undef, undef, undef, undef, undef, undef], defers := [] }) ?assign ?body ?done ?stop
  case assign =>
    intro l x W K hK
    gi_wp2
    exact hK
  case body =>
    rintro l pre y W ⟨⟨v, hv, hrow, hle⟩, hB⟩ hlt
    have hcv := hv.cell
    have hch : W.cell? ⟨n0, 0, none⟩ = some (.int .u32 hi) := (hB.cell (p := ⟨n0, 0, none⟩) (by simp)).trans bH.cell
    by_cases hgt : hi < y
    · have HGT := Lib.hid hgt
      have HALL : Hid (∀ y ∈ pre, y ≤ hi) := hle
      clear hle
      gi_wp2
      exact ⟨KeepsFrom.refl _ _, rfl, pre, y, rfl, HGT.out, ⟨v, hv, hrow, HALL.out⟩, hB⟩
    · have HALL : Hid (∀ z ∈ pre ++ [y], z ≤ hi) := by
        intro z hz
        rcases List.mem_append.1 hz with hz | hz
        · exact hle z hz
        · rw [List.mem_singleton.1 hz]; omega
      clear hle
      gi_wp2_with (gi_at_builtin; refine wpListIn_append_own _ rfl _ _ 22 rfl (n0 + 1) 28 i0 (.int .u32 0) 1 4 Try.underlying22 hi0 hz0 hz1 hz2 rfl (by decide) _ _ _ rfl (hrow.alloc _) ⟨W.heap.size, 0, none⟩ 1 1 [.int .u32 y] rfl rfl (cell_one_new _ _ _) (by simp [Value.oneCell']) (by unfold maxLen; omega) (by omega) (by have := hB.size; simp; omega) ?_; intro v' w2 hown' hgrow _; obtain ⟨g', cap', rfl⟩ := ownsRow_succ hown'; obtain ⟨hv1, hv2, hr2, hk2, hb2⟩ := hv.appended (by decide) hrow (by have := hB.size; omega) (Nat.le_refl _) hown' hgrow; have hc1 := hv1.cell; have hf1 := hv1.frozen)
      exact ⟨hk2.from _, hb2, ⟨_, hv2, by simpa using hr2, HALL.out⟩, hB.trans hb2⟩
  case done =>
    rintro D ys W hD ⟨k, hk, rfl⟩ ⟨⟨v, hv, hrow, hle⟩, hB⟩ hK
    have hcv := hv.cell
    have HB : Hid (betOf zs hi k = zs.drop k) := takeWhile_all fun y hy => decide_eq_true (hle y hy)
    have HK := Lib.hid hk
    clear hle hk
    gi_wp2
    refine ⟨by simp, .inl ⟨_, _, rfl, run_takeDeferred hK, ?_⟩⟩
    refine ⟨_, results_tmp rfl _ _ _, k, v, rfl, HK.out, ?_, ?_⟩
    · rw [HB.out]
      refine Go.Proofs.Ytmhhmenhfocfjaa.Own.mono (base := n0 + 1) ?_ (by omega)
      unfold Go.Proofs.Ytmhhmenhfocfjaa.Own
      rw [intE_cells]
      exact ownsRow_putObj hrow _ hK rfl
    · refine New.of_below ?_
      have h1 := hn1.toBelow
      rw [hn0] at h1 ⊢
      exact (h1.trans (hB.mono (by omega))).trans (belowK_b (w := w1) (n₀ := n0) (by omega) W D _ _ hD hK rfl rfl)
  case stop =>
    rintro D c pre W hD ⟨k, hk, hp⟩ ⟨rfl, pre0, y, rfl, hgt, ⟨v, hv, hrow, hle⟩, hB⟩ hK
    have hcv := hv.cell
    have HB : Hid (betOf zs hi k = pre0) := by
      obtain ⟨s, hs⟩ := hp
      unfold betOf Hid
      rw [← hs, List.append_assoc]
      exact takeWhile_stop (fun y hy => decide_eq_true (hle y hy)) (decide_eq_false (by omega))
    have HK := Lib.hid hk
    clear hle hk hp
    gi_wp2
    refine ⟨by simp, .inl ⟨_, _, rfl, run_takeDeferred hK, ?_⟩⟩
    refine ⟨_, results_tmp rfl _ _ _, k, v, rfl, HK.out, ?_, ?_⟩
    · rw [HB.out]
      refine Go.Proofs.Ytmhhmenhfocfjaa.Own.mono (base := n0 + 1) ?_ (by omega)
      unfold Go.Proofs.Ytmhhmenhfocfjaa.Own
      rw [intE_cells]
      exact ownsRow_putObj hrow _ hK rfl
    · refine New.of_below ?_
      have h1 := hn1.toBelow
      rw [hn0] at h1 ⊢
      exact (h1.trans (hB.mono (by omega))).trans (belowK_b (w := w1) (n₀ := n0) (by omega) W D _ _ hD hK rfl rfl)

end Go.Proofs.Ytmhhmenhfocfjaa
