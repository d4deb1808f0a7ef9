/- EventKeeps: the walk. -/
import Derived.Test.YtjaapenojppnpaaEvAlive
import Derived.Test.YtjaapenojppnpaaRefQ15
import Derived.Laws.OwnMore
namespace Go.Proofs.Ytjaapenojppnpaa
open Go.RowKit

theorem Elem.cells_set {α : Type} (E : Elem α) {l : List α} {k : Nat} {x y : α} (hx : l[k]? = some x) {j : Nat} {u : Value} (hj : j < E.sz) (hy : E.enc y = (E.enc x).set j u) : (E.cells l).set (k * E.sz + j) u = E.cells (l.set k y) := by
  induction l generalizing k with
  | nil => simp at hx
  | cons a l ih =>
    unfold Elem.cells at ih ⊢
    rw [List.flatMap_cons]
    cases k with
    | zero =>
      simp only [List.getElem?_cons_zero, Option.some.injEq] at hx
      subst hx
      rw [Nat.zero_mul, Nat.zero_add, List.set_append, if_pos (by rw [E.len]; exact hj), List.set_cons_zero, List.flatMap_cons, hy]
    | succ k =>
      rw [List.getElem?_cons_succ] at hx
      rw [List.set_append, if_neg (by rw [E.len, Nat.add_mul]; omega), E.len, show (k + 1) * E.sz + j - E.sz = k * E.sz + j by rw [Nat.add_mul]; omega, ih hx, List.set_cons_succ, List.flatMap_cons]

/-- A store into a cell of an owned row. -/
theorem Own.stored {α : Type} {E : Elem α} {e : TypeId} {base : Nat} {w : World} {g n c : Nat} {l : List α} (h : Own E e base w (.slice (some ⟨g, 0, none⟩) n c) l) {k : Nat} {x y : α} (hx : l[k]? = some x) {j : Nat} {u : Value}
    (hj : j < E.sz) (hy : E.enc y = (E.enc x).set j u) : Own E e base (w.setCell ⟨g, k * E.sz + j, none⟩ u) (.slice (some ⟨g, 0, none⟩) n c) (l.set k y) := by
  obtain ⟨A, c', he, _⟩ := Own.form h
  injection he with h1 h2 h3
  subst h2
  unfold Own at h ⊢
  have h2 := (h.stored (k * E.sz + j) u).1
  rw [E.cells_set hx hj hy] at h2
  rw [List.length_set]
  exact h2

theorem Own.some_ {α : Type} {E : Elem α} {e : TypeId} {base : Nat} {w : World} {A : Option Addr} {n c : Nat} {l : List α} (h : Own E e base w (.slice A n c) l) (hl : 0 < n) : ∃ g, A = some ⟨g, 0, none⟩ := by
  rcases h.2 with ⟨h1, _⟩ | ⟨g, _, _, h1, _⟩
  · injection h1 with _ h2; omega
  · injection h1 with h2; exact ⟨g, h2⟩
theorem Own.cell_at {α : Type} {E : Elem α} {e : TypeId} {base : Nat} {w : World} {g n c : Nat} {l : List α} (h : Own E e base w (.slice (some ⟨g, 0, none⟩) n c) l) {k : Nat} {x : α} (hx : l[k]? = some x) {j : Nat} {u : Value} (hu : (E.enc x)[j]? = some u) :
    w.cell? ⟨g, k * E.sz + j, none⟩ = some u := by
  have := World.ownsRow.cells h (g := g) rfl _ _ (E.cells_at hx hu)
  rwa [Addr.add_lit, Nat.zero_add] at this
theorem Own.frozen {α : Type} {E : Elem α} {e : TypeId} {base : Nat} {w : World} {g n c : Nat} {l : List α} (h : Own E e base w (.slice (some ⟨g, 0, none⟩) n c) l) (j : Nat) : w.frozen? ⟨g, j, none⟩ = false := by
  obtain ⟨A, c', he, _⟩ := Own.form h
  injection he with h1 h2 h3
  subst h2
  exact World.ownsRow.frozenAt h j

theorem squeeze_id {l : List Ev} (h : ∀ x ∈ l, x.k ≠ 3) : squeeze l = l := by
  induction l with
  | nil => rfl
  | cons x l ih =>
    rw [squeeze, if_neg, ih fun y hy => h y (List.mem_cons_of_mem _ hy)]
    simp [later, h x (by simp)]

set_option maxHeartbeats 6400000 in
theorem keeps_any (x : Value × List Ev) (w : World) (h : Rd evE w x.1 x.2 ∧ ∀ y ∈ x.2, y.wf) :
    Calls Try.prog 7 #[x.1] w fun e w' => e = .returned (.bool true) ∧ New w w' := by
  obtain ⟨v, l⟩ := x
  obtain ⟨hv, hw⟩ := h
  dsimp only at hv hw ⊢
  obtain ⟨i0, hi, hz0, hz1, hz2⟩ := info_parts ev_info
  have HV := Lib.hid hv
  have HW := Lib.hid hw
  clear hw
  obtain ⟨A, c, rfl, hc, hcells⟩ := hv
  clear hcells
  rcases Nat.lt_or_ge 100 l.length with hl | hl
  · go_enter Try.func7, Try.ntmps7
    go_wp2_with fail
    refine (alive_any _).mono ?_
    rintro e w1 ⟨rfl, hn1⟩
    go_wp2
    go_ret
    exact ⟨rfl, hn1⟩
  · go_enter Try.func7, Try.ntmps7
    go_wp2_with fail
    refine (qnew_any _).mono ?_
    rintro e w1 ⟨rfl, hq1, hn1⟩
    go_wp2_with fail
    refine (qnew_any _).mono ?_
    rintro e w2 ⟨rfl, hp2, hn2⟩
    have hq2 := hq1.new hn2
    have hs1 := hq1.blk.lt
    have h0 := Own.empty evE 29 w2.heap.size w2 (Nat.le_refl _)
    go_wp2_with (at_builtin; refine wpList_append (E := evE) rfl _ _ _ rfl Try.underlying22 hi hz0 hz1 hz2 rfl h0 rfl (((HV.out.new hn1).new hn2).alloc _) rfl (by unfold maxLen; simp; omega) (by simp; omega) (by simp) ?_; intro v3 w3 hv3 hf3 hl3)
    have hn3 : New w2 w3 := New.append ((New.refl w2).alloc _) h0 hf3
    have hq3 := hq2.new hn3
    have hp3 := hp2.new hn3
    have hs2 := hn1.size
    have hs3 := hn2.size
    have hs4 := hn3.size
    have hb2 := hp2.blk.lt
    rw [List.nil_append] at hv3
    clear h0 hf3 hl3
    have hv3n : ¬ v3.ownBlock = some w.heap.size := fun h => (hv3.blk_ne hq3.blk (by decide)) h
    have hv3p : ¬ v3.ownBlock = some w1.heap.size := fun h => (hv3.blk_ne hp3.blk (by decide)) h
    have HN3 := Lib.hid hv3n
    have HP3 := Lib.hid hv3p
    clear hv3n hv3p
    obtain ⟨A3, c3, rfl, hc3⟩ := hv3.form
    go_wp2_with fail
    refine (push_any hq3 _ l hv3.rd (by omega) (by simp) HW.out).mono ?_
    rintro e w4 ⟨rfl, v4, hq4, hf4, hl4⟩
    have hv4 := hv3.fr hf4 (fun g hg hs => by rcases hs with rfl | hs <;> first | exact HN3.out hg | cases hs)
    have hd4 : ∀ g, (Value.slice A3 l.length c3).ownBlock = some g → ¬ v4.ownBlock = some g := by
      intro g hg h
      have h1 := (hv3.block hg).2
      rcases hl4 with h4 | ⟨g', h4, h5⟩
      · rw [h4] at h; cases h
      · rw [h4] at h; injection h with h; omega
    have hp4 := hp3.fr hf4 (fun hs => by rcases hs with hs | hs <;> first | omega | cases hs) (fun g hg => by cases hg)
    have hn4 : New w w4 := Fr.trans' (hn1.trans (hn2.trans hn3)) hf4 fun i hi hs => by rcases hs with rfl | hs <;> first | omega | cases hs
    have HD4 := Lib.hid hd4
    have hs5 := hf4.size
    have hbase : w.heap.size ≤ w2.heap.size := by omega
    clear hd4 hv3 hf4 hq3 hp3 hl4
    go_wp2_with fail
    go_loopw [32] (fun vi wr => ∃ (k : Nat) (m : List Ev), k ≤ l.length ∧ vi = .int .i64 k ∧ m.length = l.length ∧ Own evE 29 w2.heap.size wr (.slice A3 l.length c3) m ∧ Fr (fun g => (Value.slice A3 l.length c3).ownBlock = some g) w4 wr) (fun vi _ => l.length - (intOf vi).toNat)
    case atStart => exact ⟨0, l, Nat.zero_le _, rfl, rfl, hv4, Fr.refl _ _⟩
    case round =>
      obtain ⟨k, m, hk, rfl, hm, ho, hf5⟩ := hrel
      by_cases hkl : k < l.length
      · obtain ⟨x, hx⟩ : ∃ x, m[k]? = some x := ⟨_, List.getElem?_eq_getElem (by omega)⟩
        obtain ⟨g, rfl⟩ := ho.some_ (by omega)
        have c1 : wr.cell? ⟨g, k * 3 + 1, none⟩ = some (.int .u32 x.u) := ho.cell_at hx rfl
        have f1 : wr.frozen? ⟨g, k * 3 + 1, none⟩ = false := ho.frozen _
        have hst := fun y => Own.stored ho hx (j := 1) (u := .int .u32 y) (y := ⟨x.k, y, x.f⟩) (by decide) rfl
        have HST := Lib.hid hst
        clear hst hx
        go_wp2
        go_roundw
        case rel => exact ⟨k + 1, _, by omega, by go_num, by rw [List.length_set]; exact hm, HST.out _, Fr.setCell hf5 (p := ⟨g, k * 3 + 1, none⟩) (fun _ => rfl) _⟩
        case measure => simp [intOf]; omega
      · have hq5 := hq4.fr hf5 (fun h => HN3.out h) (fun g hg h => HD4.out g h hg)
        have hp5 := hp4.fr hf5 (fun h => HP3.out h) (fun g hg => by cases hg)
        have hn5 : New w wr := Fr.trans' hn4 hf5 fun i hi hs => by have := (hv4.block hs).1; omega
        clear ho hf5 hv4 hq4 hp4 hn4 HD4
        go_wp2_with fail
        have hfl := List.length_filter_le (fun x : Ev => decide (1 ≤ x.k ∧ x.k ≤ 3)) l
        refine (flush_any hq5 false (by rw [List.nil_append]; omega)).mono ?_
        rintro e w6 ⟨o, v6, rfl, ho6, hq6, hf6, hg6, hd6⟩
        have hp6 := hp5.fr hf6 (fun h => by omega) (fun g hg => by cases hg)
        have hn6 : New w w6 := New.one hn5 hf6 (Nat.le_refl _)
        obtain ⟨A6, c6, rfl, hc6⟩ := ho6.form
        generalize hsq : squeeze (List.filter (fun x => false || decide (x.k ≠ 2)) ([] ++ List.filter (fun x => decide (1 ≤ x.k ∧ x.k ≤ 3)) l)) = sq at ho6 hd6 hc6 ⊢
        have hsql : sq.length ≤ 100 := by
          rw [← hsq]
          refine Nat.le_trans (squeeze_length _) (Nat.le_trans (List.length_filter_le _ _) ?_)
          rw [List.nil_append]; omega
        have hon : ¬ (Value.slice A6 sq.length c6).ownBlock = some w.heap.size := fun h => (ho6.blk_ne hq6.blk (by decide)) h
        have hop : ¬ (Value.slice A6 sq.length c6).ownBlock = some w1.heap.size := fun h => (ho6.blk_ne hp6.blk (by decide)) h
        have HON := Lib.hid hon
        have HOP := Lib.hid hop
        have HD6 := Lib.hid hd6
        have HG6 := Lib.hid hg6
        clear hon hop hd6 hg6 hsq
        have hs7 := hf6.size
        have hs8 := hn5.size
        go_wp2_with fail
        go_loopw [48] (fun vi wr => ∃ (k : Nat) (m : List Ev), k ≤ sq.length ∧ vi = .int .i64 k ∧ m.length = sq.length ∧ Own evE 29 w.heap.size wr (.slice A6 sq.length c6) m ∧ Fr (fun g => (Value.slice A6 sq.length c6).ownBlock = some g) w6 wr) (fun vi _ => sq.length - (intOf vi).toNat)
        case atStart => exact ⟨0, sq, Nat.zero_le _, rfl, rfl, ho6.mono hs8, Fr.refl _ _⟩
        case round =>
          obtain ⟨k, m, hk, rfl, hm, ho, hf7⟩ := hrel
          by_cases hkl : k < sq.length
          · obtain ⟨x, hx⟩ : ∃ x, m[k]? = some x := ⟨_, List.getElem?_eq_getElem (by omega)⟩
            obtain ⟨g, rfl⟩ := ho.some_ (by omega)
            have c1 : wr.cell? ⟨g, k * 3 + 1, none⟩ = some (.int .u32 x.u) := ho.cell_at hx rfl
            have f1 : wr.frozen? ⟨g, k * 3 + 1, none⟩ = false := ho.frozen _
            have hst := fun y => Own.stored ho hx (j := 1) (u := .int .u32 y) (y := ⟨x.k, y, x.f⟩) (by decide) rfl
            have HST := Lib.hid hst
            clear hst hx
            go_wp2
            go_roundw
            case rel => exact ⟨k + 1, _, by omega, by go_num, by rw [List.length_set]; exact hm, HST.out _, Fr.setCell hf7 (p := ⟨g, k * 3 + 1, none⟩) (fun _ => rfl) _⟩
            case measure => simp [intOf]; omega
          · have hq7 := hq6.fr hf7 (fun h => HON.out h) (fun g hg h => by rcases HD6.out with h1 | h1 <;> first | (rw [h1] at h; cases h) | exact h1 (h.trans hg.symm))
            have hp7 := hp6.fr hf7 (fun h => HOP.out h) (fun g hg => by cases hg)
            have hn7 : New w wr := Fr.trans' hn6 hf7 fun i hi hs => by have := (ho6.block hs).1; omega
            have hnil : Rd evE wr (.slice none 0 0) [] := Rd.nil _ _
            clear ho hf7 ho6 hq6 hp6 hn6 HD6 HG6
            go_wp2_with fail
            refine (rpush_any _ _ [] l wr hnil (HV.out.new hn7) (by simp) (by omega)).mono ?_
            rintro e w8 ⟨t, rfl, ht, hn8⟩
            go_wp2_with fail
            refine (rflush_any _ _ false w8 ht.rd (by rw [List.nil_append]; omega)).mono ?_
            rintro e w9 ⟨t1, t2, rfl, ht1, ht2, hn9⟩
            go_wp2_with fail
            refine (push_nil _ _).mono ?_
            rintro e w10 ⟨rfl, rfl⟩
            go_wp2_with fail
            refine (alive_any _).mono ?_
            rintro e w11 ⟨rfl, hn11⟩
            have hn711 := (hn8.trans hn9).trans hn11
            have hq11 := hq7.new hn711
            have hp11 := hp7.new hn711
            have ht11 := ht2.new hn11
            have hn12 := hn7.trans hn711
            clear hq7 hp7 hn7 ht ht1 ht2 hn8 hn9 hn11 hn711 hnil
            generalize hr : List.filter (fun x : Ev => !(false || decide (x.k ≠ 2))) ([] ++ List.filter (fun x => decide (1 ≤ x.k ∧ x.k ≤ 3)) l) = r at *
            have hrl : r.length ≤ 100 := by rw [← hr]; refine Nat.le_trans (List.length_filter_le _ _) ?_; rw [List.nil_append]; omega
            have hre : squeeze (r.filter fun x => true || decide (x.k ≠ 2)) = r := by
              have h1 : (r.filter fun x : Ev => true || decide (x.k ≠ 2)) = r := List.filter_eq_self.2 (by simp)
              rw [h1]
              refine squeeze_id fun x hx h3 => ?_
              rw [← hr] at hx
              have := (List.mem_filter.1 hx).2
              simp [h3] at this
            have HRE := Lib.hid hre
            clear hre hr
            go_wp2_with fail
            refine (flush_any hq11 true (by omega)).mono ?_
            rintro e w12 ⟨o12, v12, rfl, ho12, _, hf12, _, _⟩
            rw [HRE.out] at ho12
            have hp12 := hp11.fr hf12 (fun h => by omega) (fun g hg => by cases hg)
            have hn13 : New w w12 := New.one hn12 hf12 (Nat.le_refl _)
            have ht12 := ht11.fr hf12 (fun g hg h => by subst h; exact (ht11.blk_ne hq11.blk (by decide)) hg)
            go_wp2_with fail
            refine (equal_any _ _ r r _ ho12.rd ht12.rd (by omega) (by omega)).mono ?_
            rintro e w13 ⟨rfl, hn14⟩
            rw [decide_eq_true (Eq.refl _)]
            go_wp2_with fail
            refine (len_nil _).mono ?_
            rintro e w14 ⟨rfl, rfl⟩
            go_wp2_with fail
            refine (flush_nil _ _).mono ?_
            rintro e w15 ⟨rfl, hn15⟩
            go_wp2_with fail
            refine (clear_nil _).mono ?_
            rintro e w16 ⟨rfl, rfl⟩
            go_wp2_with fail
            refine (has_nil _ _).mono ?_
            rintro e w17 ⟨rfl, hn17⟩
            have hp17 := ((hp12.new hn14).new hn15).new hn17
            go_wp2_with fail
            refine (len_any hp17).mono ?_
            rintro e w18 ⟨rfl, rfl⟩
            go_wp2
            go_ret
            exact ⟨rfl, ((hn13.trans hn14).trans hn15).trans hn17⟩

end Go.Proofs.Ytjaapenojppnpaa
