/- A part of the proof: With, IdxP, Idx2, Search, Find, Asc, IterU. -/
import Derived.Test.YtliimglbbiebiaaGreatDoorGTopFullAJ
import Derived.Test.YtliimglbbiebiaaGreatDoorGTopFullAA
import Derived.Test.YtliimglbbiebiaaGreatDoorRows
import Derived.WalkKit
import Derived.WalkSpells
import Derived.WalkLawsBesides
import Derived.Deep.QuietTactic
import Derived.BigQuiet
import Derived.Lib.Hide
import Derived.Shelf.Abstract
import Derived.RangeFuncNested
import Derived.RangeFuncBound
import Derived.RangeFuncCalls
import Derived.RangeFuncLeaves
import Derived.Shelf.RegionOpen
import Derived.OwnWalkIn
import Derived.TacticsInMore
import Derived.LoopNIn
import Derived.LoopIn

section
/- A table of messages in stripes: Sizes, With. -/
namespace Go.Proofs.YtliimglbbiebiaaGreatDoor
open Go.RowKit Go.Maps

/-- A function that turns no stripe is called with a stripe's messages, under its lock. -/
theorem tdo2_any {base : Nat} {w : World} {T : Tb} {X : List MB} (h : TBX base w T X) {i : Nat} (hi : i < T.n) (fn : Nat) (cap : Array Value) (S : Nat → Prop) (hS : ∀ k, S k → ¬ T.foot k)
    (hSB : ∀ v l, Own (intE .u8) 5 base w v l → ∀ b, v.ownBlock = some b → ¬ S b) (Q : World → Prop) (hE : ∀ args w, (callFunc fn args).run Tryz.prog w = .ok (.enter fn args) w)
    (hf : Calls Tryz.prog fn (#[.map (some (T.mb i))] ++ cap) (w.setCell ⟨T.q i, 0, none⟩ (.int .i32 1)) fun e w2 => e = .returned (.tuple #[]) ∧ Fr S (w.setCell ⟨T.q i, 0, none⟩ (.int .i32 1)) w2 ∧ Q w2) :
    Calls Tryz.prog 191 #[.pointer (some ⟨T.q i, 0, none⟩), .func (.func fn) #[] cap] w fun e w' => e = .returned (.tuple #[]) ∧ ∃ w2, w' = w2.setCell ⟨T.q i, 0, none⟩ (.int .i32 0) ∧ Q w2 ∧ TBX base w' T X ∧ Fr (fun k => k = T.q i ∨ S k) w w' := by
  have hp := h.part i hi
  have hmq : T.mb i ≠ T.q i := (h.map i hi).ne_blk hp
  refine (do_any (T.q i) (T.mb i) fn cap (fun w2 => Fr S (w.setCell ⟨T.q i, 0, none⟩ (.int .i32 1)) w2 ∧ Q w2) w hp hE hf ?_).mono ?_
  · rintro w2 ⟨h2, _⟩
    exact h2.blk (hp.set_ 0 _) (fun hs => hS _ hs (h.rq i hi))
  · rintro e w' ⟨rfl, w2, ⟨h2, h7⟩, rfl⟩
    have hp2 : Blk w2 (T.q i) 143 #[.int .i32 1, .int .u32 0, .map (some (T.mb i))] := h2.blk (hp.set_ 0 _) (fun hs => hS _ hs (h.rq i hi))
    have hF : Fr (fun k => k = T.q i ∨ S k) w (w2.setCell ⟨T.q i, 0, none⟩ (.int .i32 0)) :=
      Fr.setCell (Fr.trans (((Fr.refl _ _)).setCell (fun _ => .inl rfl) _) (fr_or h2 fun _ h => .inr h)) (fun _ => .inl rfl) _
    refine ⟨rfl, w2, rfl, h7, h.turn hi hF (fun k hk => ?_) (hp2.set_ 0 _) ((((h.map i hi).setCell (a := ⟨T.q i, 0, none⟩) hmq _).fr h2 (fun hs => hS _ hs (h.rm i hi))).setCell (a := ⟨T.q i, 0, none⟩) hmq _) (fun _ _ _ => rfl) (fun x hx => ?_) h.nd h.ok, hF⟩
    · rcases hk with hk | hk
      · exact .inl hk
      · exact .inr (.inr (hS k hk))
    · refine (h.body x hx).fr hF fun b hb hs => ?_
      rcases hs with rfl | hs
      · obtain ⟨cs, h9⟩ := (h.body x hx).heap hb
        exact hp.ne_ h9 (by decide) rfl
      · exact hSB _ _ (h.body x hx) b hb hs

theorem int_info2 : (Tryz.prog.info? 3).map (fun i => (i.zero, i.size, i.bytes)) = some (some (.int .i64 0), 1, 8) := by kernel_rfl

set_option maxHeartbeats 400000 in
theorem twith_nil (f : Int) (w : World) : Calls Tryz.prog 138 #[.pointer none, .int .u8 f] w fun e w' => e = .returned (.slice none 0 0) ∧ New w w' := by
  go_enter Tryz.func138, Tryz.ntmps138
  go_wp2
  go_ret
  exact ⟨rfl, (New.refl w).alloc _⟩

theorem ent_len (n i : Nat) (X : List MB) : (ent n i X).length = (strM n i (X.map MB.m)).length := by
  unfold ent strM
  rw [List.length_map, List.filter_map, List.length_map]
  rfl
theorem sizesM_take {n k : Nat} (hk : k < n) (M : List Msg) : (sizesM n M).take (k + 1) = (sizesM n M).take k ++ [((strM n k M).length : Int)] := by
  refine take_snoc ?_
  unfold sizesM
  rw [List.getElem?_map, List.getElem?_range hk]
  rfl
theorem sizesM_len (n : Nat) (M : List Msg) : (sizesM n M).length = n := by simp [sizesM]

/-- What the loop over the stripes has done: a slice in a box. -/
structure SzR (w0 wr : World) (base : Nat) (T : Tb) (X : List MB) (ob : Nat) (v : Value) (acc : List Int) : Prop where
  tbl : TBX base wr T X
  box : Blk wr ob 31 #[v]
  row : Own (intE .i64) 3 w0.heap.size wr v acc
  fr : Fr T.foot w0 wr

theorem filter_split {α : Type} (p q : α → Bool) (l : List α) (hpq : ∀ x ∈ l, ¬ (p x = true ∧ q x = true)) : (l.filter fun x => p x || q x).Perm (l.filter p ++ l.filter q) := by
  induction l with
  | nil => exact List.Perm.refl _
  | cons x l ih =>
    have ih := ih fun y hy => hpq y (List.mem_cons_of_mem _ hy)
    have hx := hpq x List.mem_cons_self
    cases hp : p x with
    | true =>
      have hq : q x = false := by cases hq : q x with
        | false => rfl
        | true => exact absurd ⟨hp, hq⟩ hx
      simp only [List.filter_cons, hp, hq, Bool.true_or, if_true]
      simpa using ih.cons x
    | false =>
      cases hq : q x with
      | true =>
        simp only [List.filter_cons, hp, hq, Bool.or_true, if_true]
        simpa using (ih.cons x).trans (List.perm_middle (a := x)).symm
      | false =>
        simp only [List.filter_cons, hp, hq]
        simpa using ih

theorem stripes_perm {n k : Nat} (X : List MB) : (X.filter fun x : MB => decide (x.m.uid % (n : Int) < ((k + 1 : Nat) : Int))).Perm ((X.filter fun x : MB => decide (x.m.uid % (n : Int) < (k : Int))) ++ X.filter fun x : MB => decide (x.m.uid % (n : Int) = (k : Int))) := by
  refine List.Perm.trans (List.Perm.of_eq (List.filter_congr fun x _ => ?_)) (filter_split (fun x : MB => decide (x.m.uid % (n : Int) < (k : Int))) (fun x : MB => decide (x.m.uid % (n : Int) = (k : Int))) X fun x _ h => ?_)
  · rw [Bool.eq_iff_iff]
    simp
    omega
  · simp at h
    omega

theorem withX_map (f : Int) (X : List MB) : withX f X = withL (X.map MB.m) f := by
  unfold withX withL
  rw [List.filter_map, List.map_map]
  rfl

theorem sort_perm {l l' : List Int} (h : l.Perm l') : (l.mergeSort fun x y => decide (x ≤ y)) = l'.mergeSort fun x y => decide (x ≤ y) := by
  have tr : ∀ a b c : Int, decide (a ≤ b) = true → decide (b ≤ c) = true → decide (a ≤ c) = true := fun a b c h1 h2 => by simp at *; omega
  have tt : ∀ a b : Int, (decide (a ≤ b) || decide (b ≤ a)) = true := fun a b => by simp; omega
  refine List.Perm.eq_of_pairwise (le := fun a b => decide (a ≤ b) = true) (fun a b _ _ h1 h2 => ?_) (List.pairwise_mergeSort tr tt l) (List.pairwise_mergeSort tr tt l') (((List.mergeSort_perm l _).trans h).trans (List.mergeSort_perm l' _).symm)
  simp at h1 h2
  omega

/-- What the loop over the stripes has collected. -/
structure WiR (w0 wr : World) (base : Nat) (T : Tb) (X : List MB) (f : Int) (k : Nat) (v : Value) (acc : List Int) : Prop where
  tbl : TBX base wr T X
  fb : Blk wr w0.heap.size 45 #[.int .u8 f]
  box : Blk wr (w0.heap.size + 1) 58 #[v]
  row : Own (intE .u32) 28 w0.heap.size wr v acc
  perm : acc.Perm (withX f (X.filter fun x : MB => decide (x.m.uid % (T.n : Int) < (k : Int))))
  fr : Fr T.foot w0 wr

theorem WiR.len {w0 wr base T X f k v acc} (h : WiR w0 wr base T X f k v acc) : acc.length ≤ X.length := by
  rw [h.perm.length_eq]
  exact Nat.le_trans (withX_len _ _) (List.length_filter_le _ _)

set_option maxRecDepth 100000 in
set_option maxHeartbeats 3200000 in
theorem twith_any {base : Nat} {w : World} {T : Tb} {X : List MB} (h : TBX base w T X) (hX : X.length ≤ 100000) (f : Int) (hf : 0 ≤ f ∧ f ≤ 255) :
    Calls Tryz.prog 138 #[.pointer (some ⟨T.tb, 0, none⟩), .int .u8 f] w fun e w' => ∃ o, e = .returned o ∧ Own (intE .u32) 28 w.heap.size w' o ((withL (X.map MB.m) f).mergeSort fun x y => decide (x ≤ y)) ∧ TBX base w' T X ∧ Fr T.foot w w' := by
  have hmf : ∀ (fn : Fn) (first cap : Array Value) (w : World), (Instr.makeFunc fn first cap).run Tryz.prog w = .ok (.func fn first cap) w := fun _ _ _ _ => rfl
  have hE := enters _ _ _ Tryz.func192 (by kernel_rfl) rfl
  have c0 : w.cell? ⟨T.tb, 0, none⟩ = some (.slice (some ⟨T.pb, 0, none⟩) T.n T.c) := h.hd.cell 0
  have htl := h.hd.lt
  have hn1 := h.n1
  have htop := h.top
  have H1 : Hid (WiR w ((w.alloc (.cells #[.int .u8 f] 45)).alloc (.cells #[.slice none 0 0] 58)) base T X f 0 (.slice none 0 0) []) :=
    ⟨h.new (((New.refl w).alloc _).alloc _), (Blk.new _ _ _).alloc _, Blk.new1 _ _ _ _, Own.nil _ _ _ _, by
      have : (X.filter fun x : MB => decide (x.m.uid % (T.n : Int) < ((0 : Nat) : Int))) = [] := by
        rw [List.filter_eq_nil_iff]
        intro x _
        have h0 := h.n0
        have := Int.emod_nonneg x.m.uid (b := (T.n : Int)) (by omega)
        simp
        omega
      rw [this]
      exact List.Perm.refl _, New.to (((New.refl w).alloc _).alloc _)⟩
  go_enter Tryz.func138, Tryz.ntmps138
  go_wp2
  go_loopw [15] (fun vi wr => ∃ (k : Nat) (v : Value) (acc : List Int), vi = .int .i64 k ∧ k ≤ T.n ∧ Hid (WiR w wr base T X f k v acc)) (fun vi _ => T.n - (intOf vi).toNat)
  case atStart => exact ⟨0, _, _, rfl, Nat.zero_le _, H1.out⟩
  case round =>
    obtain ⟨k, v, acc, rfl, hk, HR⟩ := hrel
    clear H1
    have hsz := HR.out.fr.size
    have hal := HR.out.len
    by_cases hlt : k < T.n
    · have hd : decide ((k : Int) < T.n) = true := decide_eq_true (by omega)
      have hnI : (k : Int) < (T.n : Int) := by omega
      have hkw : IntKind.i64.wrap ((k : Int) + 1) = (k : Int) + 1 := IntWalk.i64_in _ (by omega)
      have hp := HR.out.tbl.ptr hlt
      have hpt := HR.out.tbl.part k hlt
      have hmq : T.mb k ≠ T.q k := (HR.out.tbl.map k hlt).ne_blk hpt
      have hoq : w.heap.size + 1 ≠ T.q k := HR.out.box.ne_ hpt (by decide)
      have hfq : w.heap.size ≠ T.q k := HR.out.fb.ne_ hpt (by decide)
      have hrb := fun b hb => (HR.out.row.block (b := b) hb).1
      have hrh := fun b hb => HR.out.row.heap (g := b) hb
      have HD : Hid (Calls Tryz.prog 191 #[.pointer (some ⟨T.q k, 0, none⟩), .func (.func 192) #[] #[.pointer (some ⟨w.heap.size, 0, none⟩), .pointer (some ⟨w.heap.size + 1, 0, none⟩)]] wr fun e w' => e = .returned (.tuple #[]) ∧ ∃ v' acc', WiR w w' base T X f (k + 1) v' acc') := by
        refine (tdo2_any HR.out.tbl hlt 192 #[.pointer (some ⟨w.heap.size, 0, none⟩), .pointer (some ⟨w.heap.size + 1, 0, none⟩)] (fun k => k = w.heap.size + 1 ∨ v.ownBlock = some k) (fun b hb hft => ?_) (fun u l hu b hb hs => ?_)
          (fun w2 => ∃ v' dX, dX.Perm (X.filter fun x : MB => decide (x.m.uid % (T.n : Int) = (k : Int))) ∧ Blk w2 w.heap.size 45 #[.int .u8 f] ∧ Blk w2 (w.heap.size + 1) 58 #[v'] ∧ Own (intE .u32) 28 w.heap.size w2 v' (acc ++ withX f dX)) hE ?_).mono ?_
        · have h2 := hft.2
          rcases hb with rfl | hb
          · omega
          · have := hrb _ hb; omega
        · obtain ⟨cs, h9⟩ := hu.heap hb
          rcases hs with rfl | hs
          · exact h9.ne_ HR.out.box (by decide) rfl
          · obtain ⟨cs', h10⟩ := hrh _ hs
            exact h9.ne_ h10 (by decide) rfl
        · have hb1 := HR.out.box.far (p := ⟨T.q k, 0, none⟩) hoq (.int .i32 1)
          have hf1 := HR.out.fb.far (p := ⟨T.q k, 0, none⟩) hfq (.int .i32 1)
          have hr1 := HR.out.row.fr ((Fr.refl (fun k' => k' = T.q k) wr).setCell (p := ⟨T.q k, 0, none⟩) (fun _ => rfl) (.int .i32 1)) (fun b hb hs => by obtain ⟨cs, h9⟩ := hrh b hb; exact h9.ne_ hpt (by decide) hs)
          have hnd : ((X.filter fun x : MB => decide (x.m.uid % (T.n : Int) = (k : Int))).map fun x => x.m.uid).Nodup := h.nd.sublist (List.Sublist.map _ List.filter_sublist)
          have hfl : (X.filter fun x : MB => decide (x.m.uid % (T.n : Int) = (k : Int))).length ≤ X.length := List.length_filter_le _ _
          refine (with1_any (SX := X.filter fun x : MB => decide (x.m.uid % (T.n : Int) = (k : Int))) ((HR.out.tbl.map k hlt).setCell (a := ⟨T.q k, 0, none⟩) hmq _) hnd (fun x hx => by have := (h.ok x (List.mem_filter.1 hx).1).1.2; omega) hf1 hf hb1 hr1 (by simpa [World.setCell] using hsz) (by omega)).mono ?_
          rintro e w2 ⟨rfl, v', dX, h5, h6, h7, h8, h9⟩
          exact ⟨rfl, h9, v', dX, h5, h9.blk hf1 (fun hs => by rcases hs with hs | hs; (omega); have h10 := hrh _ hs; obtain ⟨cs, h10⟩ := h10; exact h10.ne_ HR.out.fb (by decide) rfl), h6, h7⟩
        · rintro e w' ⟨rfl, w2, rfl, ⟨v', dX, h5, h6, h7, h8⟩, h9, h10⟩
          refine ⟨rfl, v', acc ++ withX f dX, h9, h6.far (p := ⟨T.q k, 0, none⟩) hfq _, h7.far (p := ⟨T.q k, 0, none⟩) hoq _, ?_, ?_, Fr.trans' HR.out.fr h10 fun b hb hs => ?_⟩
          · refine h8.fr (S := fun b => b = T.q k) ((Fr.refl (fun b => b = T.q k) _).setCell (p := ⟨T.q k, 0, none⟩) (fun _ => rfl) _) fun b hb hs => ?_
            obtain ⟨cs, h11⟩ := h8.heap hb
            subst hs
            have h12 := h9.part k hlt
            unfold Blk at h12 h11
            simp [World.setCell, Array.getElem?_modify, h11] at h12
          · have h11 := withX_perm f (stripes_perm (n := T.n) (k := k) X)
            rw [withX_app] at h11
            exact (List.Perm.append HR.out.perm (withX_perm f h5)).trans h11.symm
          · rcases hs with rfl | rfl | hs
            · exact HR.out.tbl.rq k hlt
            · omega
            · have := hrb _ hs; omega
      have cwr : wr.cell? ⟨T.tb, 0, none⟩ = some (.slice (some ⟨T.pb, 0, none⟩) T.n T.c) := HR.out.tbl.hd.cell 0
      clear hrb hrh
      go_wp2_with fail
      refine HD.out.mono ?_
      rintro e w2 ⟨rfl, v', acc', h2⟩
      have H2 := Lib.hid h2
      clear h2
      go_wp2
      go_roundw
      case rel => exact ⟨k + 1, v', acc', by go_num, by omega, H2.out⟩
      case measure => simp [intOf]; omega
    · have hd : decide ((k : Int) < T.n) = false := decide_eq_false (by omega)
      have hc : wr.cell? ⟨w.heap.size + 1, 0, none⟩ = some v := HR.out.box.cell 0
      have hp2 : acc.Perm (withL (X.map MB.m) f) := by
        have h1 := HR.out.perm
        rw [← withX_map]
        have : (X.filter fun x : MB => decide (x.m.uid % (T.n : Int) < (k : Int))) = X := by
          rw [List.filter_eq_self]
          intro x _
          have h0 := h.n0
          have := Int.emod_lt_of_pos x.m.uid (b := (T.n : Int)) (by omega)
          simp
          omega
        rw [this] at h1
        exact h1
      have HP2 := Lib.hid hp2
      clear hp2
      go_wp2_with fail
      refine (usort_any HR.out.row (by omega)).mono ?_
      rintro e w2 ⟨rfl, hrow, hfr⟩
      rw [sort_perm HP2.out] at hrow
      have hb2 := hfr.blk HR.out.box (fun hs => by obtain ⟨cs, h10⟩ := HR.out.row.heap hs; exact h10.ne_ HR.out.box (by decide) rfl)
      have hc2 : w2.cell? ⟨w.heap.size + 1, 0, none⟩ = some v := hb2.cell 0
      have HROW := Lib.hid hrow
      have hrb := fun b hb => (HR.out.row.block (b := b) hb).1
      have HRB := Lib.hid hrb
      clear hrow hb2 hrb
      go_wp2
      go_ret
      refine ⟨_, rfl, HROW.out, HR.out.tbl.fr hfr (fun b hb hft => ?_) (fun u l hu b hb hs => ?_), Fr.trans' HR.out.fr hfr fun b hb hs => ?_⟩
      · have h1 := HRB.out b hb
        have h2 := hft.2
        omega
      · obtain ⟨cs, h9⟩ := hu.heap hb
        obtain ⟨cs', h10⟩ := HR.out.row.heap hs
        exact h9.ne_ h10 (by decide) rfl
      · have h1 := HRB.out b hs
        omega

end Go.Proofs.YtliimglbbiebiaaGreatDoor
end

section
/- A row of numbers at any offset of a block, told by its cells: what an index keeps. -/
namespace Go.Proofs.YtliimglbbiebiaaGreatDoor
open Go.RowKit

/-- v is a slice of uint32 that reads as l, out of a block from base on that may be written; or it is nil and l is empty. -/
def URow (base : Nat) (w : World) (v : Value) (l : List Int) : Prop :=
  (v = .slice none 0 0 ∧ l = []) ∨ ∃ g off c, v = .slice (some ⟨g, off, none⟩) l.length c ∧ base ≤ g ∧ (∃ cs, Blk w g 28 cs) ∧ l.length ≤ c ∧ c ≤ maxLen ∧
    (∀ i x, l[i]? = some x → w.cell? ⟨g, off + i, none⟩ = some (.int .u32 x)) ∧ ∀ j, j < c → (∃ z, w.cell? ⟨g, off + j, none⟩ = some z) ∧ w.frozen? ⟨g, off + j, none⟩ = false

section
variable {base g c off n : Nat} {w w' : World} {v : Value} {l : List Int}
theorem URow.of_own (h : Own (intE .u32) 28 base w v l) : URow base w v l := by
  rcases h.2 with ⟨rfl, hn⟩ | ⟨g, cap, cur, rfl, hbase, hgb, hnc, hcm, hsz, _⟩
  · exact .inl ⟨rfl, List.eq_nil_of_length_eq_zero hn⟩
  · refine .inr ⟨g, 0, cap, rfl, hbase, ⟨cur, hgb⟩, hnc, hcm, fun i x hx => ?_, fun j hj => ⟨?_, ?_⟩⟩
    · rw [Nat.zero_add]; exact h.icell hx
    · rw [Nat.zero_add, cell_of_row w g j cur 28 (0, 0) hgb]
      exact ⟨_, Array.getElem?_eq_getElem (by have : (intE .u32).sz = 1 := rfl; rw [this] at hsz; omega)⟩
    · exact h.ifrozen _
theorem URow.rd (h : URow base w v l) : Rd (intE .u32) w v l := by
  rcases h with ⟨rfl, rfl⟩ | ⟨g, off, c, rfl, _, _, hc, _, hcells, _⟩
  · exact Rd.nil _ _
  · refine ⟨_, c, rfl, hc, fun _ => ⟨g, off, rfl, fun i x hx j u hu => by
    have h0 : (intE .u32).enc x = [.int .u32 x] := rfl
    rw [h0] at hu
    cases j with
    | succ j => simp at hu
    | zero =>
      obtain rfl : Value.int .u32 x = u := by simpa using hu
      have h1 : (intE .u32).sz = 1 := rfl
      simpa [h1] using hcells i x hx⟩⟩
theorem URow.keep (h : URow base w v l) (_hs : w.heap.size ≤ w'.heap.size) (hk : ∀ b, v.ownBlock = some b → w'.heap[b]? = w.heap[b]?) : URow base w' v l := by
  rcases h with h | ⟨g, off, c, rfl, hb, hg, hc, hm, hcells, hj⟩
  · exact .inl h
  · have e := hk g rfl
    obtain ⟨cs, hg⟩ := hg
    refine .inr ⟨g, off, c, rfl, hb, ⟨cs, e.trans hg⟩, hc, hm, fun i x hx => (World.cell?_of_block e).trans (hcells i x hx), fun j hjc => ?_⟩
    obtain ⟨⟨z, hz⟩, hf⟩ := hj j hjc
    exact ⟨⟨z, (World.cell?_of_block e).trans hz⟩, (World.frozen?_of_block e).trans hf⟩
theorem URow.block (h : URow base w v l) {b : Nat} (hb : v.ownBlock = some b) : base ≤ b ∧ b < w.heap.size := by
  rcases h with ⟨rfl, _⟩ | ⟨g, off, c, rfl, h1, h2, _⟩
  · cases hb
  · cases hb; obtain ⟨cs, h2⟩ := h2; exact ⟨h1, h2.lt⟩
theorem URow.heap (h : URow base w v l) {b : Nat} (hb : v.ownBlock = some b) : ∃ cs, Blk w b 28 cs := by
  rcases h with ⟨rfl, _⟩ | ⟨g, off, c, rfl, h1, h2, _⟩
  · cases hb
  · cases hb; exact h2
theorem URow.fr {S : Nat → Prop} (h : URow base w v l) (hf : Fr S w w') (hS : ∀ b, v.ownBlock = some b → ¬ S b) : URow base w' v l :=
  h.keep hf.size fun b hb => hf.block b (h.block hb).2 (hS b hb)
theorem URow.new (h : URow base w v l) (hf : New w w') : URow base w' v l := h.fr hf fun _ _ => id
theorem URow.tail {x : Int} (h : URow base w (.slice (some ⟨g, off, none⟩) n c) (x :: l)) : URow base w (.slice (some ⟨g, off + 1, none⟩) (n - 1) (c - 1)) l := by
  rcases h with ⟨h, _⟩ | ⟨g', off', c', he, hb, hg, hc, hm, hcells, hj⟩
  · cases h
  · cases he
    simp only [List.length_cons] at hc ⊢
    refine .inr ⟨_, _, _, rfl, hb, hg, by omega, by omega, fun i y hy => ?_, fun j hjc => ?_⟩
    · rw [Nat.add_assoc, Nat.add_comm 1 i]; exact hcells (i + 1) y (by simpa using hy)
    · rw [Nat.add_assoc, Nat.add_comm 1 j]; exact hj (j + 1) (by omega)
theorem URow.mono (h : URow base w v l) {b' : Nat} (hb : b' ≤ base) : URow b' w v l := by
  rcases h with h | ⟨g, off, c, h1, h2, h3⟩
  · exact .inl h
  · exact .inr ⟨g, off, c, h1, Nat.le_trans hb h2, h3⟩
theorem URow.form (h : URow base w v l) : ∃ A c, v = .slice A l.length c ∧ l.length ≤ c := by
  rcases h with ⟨rfl, rfl⟩ | ⟨g, off, c, rfl, _, _, hc, _⟩
  · exact ⟨none, 0, rfl, Nat.le_refl _⟩
  · exact ⟨_, c, rfl, hc⟩
end

end Go.Proofs.YtliimglbbiebiaaGreatDoor
end

section
/- An index: Len, At, All. -/
namespace Go.Proofs.YtliimglbbiebiaaGreatDoor
open Go.RowKit

/-- Block x is an index that keeps l. -/
def IdxAt (base : Nat) (w : World) (x : Nat) (l : List Int) : Prop := ∃ u, Blk w x 163 #[u] ∧ URow base w u l

theorem IdxAt.new {base x : Nat} {w w' : World} {l : List Int} (h : IdxAt base w x l) (hf : New w w') : IdxAt base w' x l := by
  obtain ⟨u, h1, h2⟩ := h
  exact ⟨u, New.blk hf h1, h2.new hf⟩

set_option maxHeartbeats 400000 in
theorem ilen_any {base x : Nat} {w : World} {l : List Int} (h : IdxAt base w x l) : Calls Tryz.prog 130 #[.pointer (some ⟨x, 0, none⟩)] w fun e w' => e = .returned (.int .i64 l.length) ∧ w' = w := by
  obtain ⟨u, hb, hr⟩ := h
  obtain ⟨A, c, rfl, _⟩ := hr.form
  have hc := hb.cell 0
  have hc0 : w.cell? ⟨x, 0, none⟩ = some (.slice A l.length c) := hc
  clear hc hr
  go_enter Tryz.func130, Tryz.ntmps130
  go_wp2
  go_ret
  exact ⟨rfl, rfl⟩

set_option maxHeartbeats 400000 in
theorem ilen_nil (w : World) : Calls Tryz.prog 130 #[.pointer none] w fun e w' => e = .returned (.int .i64 0) ∧ w' = w := by
  go_enter Tryz.func130, Tryz.ntmps130
  go_wp2
  go_ret
  exact ⟨rfl, rfl⟩

set_option maxHeartbeats 400000 in
theorem iall_any {base x : Nat} {w : World} {l : List Int} (h : IdxAt base w x l) (hl : l.length ≤ 100000) : Calls Tryz.prog 44 #[.pointer (some ⟨x, 0, none⟩)] w fun e w' => ∃ o, e = .returned o ∧ Own (intE .u32) 28 w.heap.size w' o l ∧ New w w' := by
  obtain ⟨u, hb, hr⟩ := h
  have HC := Lib.hid (uclone_any u l w hr.rd hl)
  obtain ⟨A, c, rfl, _⟩ := hr.form
  have hc := hb.cell 0
  have hc0 : w.cell? ⟨x, 0, none⟩ = some (.slice A l.length c) := hc
  clear hc hr
  go_enter Tryz.func44, Tryz.ntmps44
  go_wp2_with fail
  refine HC.out.mono ?_
  rintro e w1 ⟨o, rfl, h1, h2⟩
  go_wp2
  go_ret
  exact ⟨_, rfl, h1, h2⟩

set_option maxHeartbeats 400000 in
theorem iall_nil (w : World) : Calls Tryz.prog 44 #[.pointer none] w fun e w' => e = .returned (.slice none 0 0) ∧ w' = w := by
  go_enter Tryz.func44, Tryz.ntmps44
  go_wp2
  go_ret
  exact ⟨rfl, rfl⟩

set_option maxHeartbeats 400000 in
theorem iat_nil (p : Int) (w : World) : Calls Tryz.prog 43 #[.pointer none, .int .i64 p] w fun e w' => e = .returned (.tuple #[.int .u32 0, .bool false]) ∧ w' = w := by
  go_enter Tryz.func43, Tryz.ntmps43
  go_wp2
  go_ret2
  exact ⟨rfl, rfl⟩

/-- What At hands back. -/
def atOf (l : List Int) (p : Int) : Int × Bool := if 1 ≤ p ∧ p ≤ l.length then (l[(p - 1).toNat]?.getD 0, true) else (0, false)

set_option maxHeartbeats 800000 in
theorem iat_any {base x : Nat} {w : World} {l : List Int} (h : IdxAt base w x l) (hl : l.length ≤ 100000) (p : Int) : Calls Tryz.prog 43 #[.pointer (some ⟨x, 0, none⟩), .int .i64 p] w fun e w' => e = .returned (.tuple #[.int .u32 (atOf l p).1, .bool (atOf l p).2]) ∧ w' = w := by
  obtain ⟨u, hb, hr⟩ := h
  obtain ⟨A, c, rfl, hlc, hcells⟩ := hr.rd.ints
  have hc := hb.cell 0
  have hc0 : w.cell? ⟨x, 0, none⟩ = some (.slice A l.length c) := hc
  have HCL := Lib.hid hcells
  clear hc hr hcells
  by_cases h1 : p < 1
  · have hd : decide (p < 1) = true := decide_eq_true h1
    have ha : atOf l p = (0, false) := if_neg (by omega)
    rw [ha]
    clear ha
    go_enter Tryz.func43, Tryz.ntmps43
    go_wp2
    go_ret2
    exact ⟨rfl, rfl⟩
  · have hd : decide (p < 1) = false := decide_eq_false h1
    by_cases h2 : (l.length : Int) < p
    · have hd2 : decide ((l.length : Int) < p) = true := decide_eq_true h2
      have ha : atOf l p = (0, false) := if_neg (by omega)
      rw [ha]
      clear ha
      go_enter Tryz.func43, Tryz.ntmps43
      go_wp2
      go_ret2
      exact ⟨rfl, rfl⟩
    · have hd2 : decide ((l.length : Int) < p) = false := decide_eq_false h2
      obtain ⟨k, rfl⟩ : ∃ k : Nat, p = k + 1 := ⟨(p - 1).toNat, by omega⟩
      have hk : k < l.length := by omega
      obtain ⟨y, hy⟩ : ∃ y, l[k]? = some y := ⟨_, List.getElem?_eq_getElem hk⟩
      have ha : atOf l (k + 1) = (y, true) := by
        unfold atOf
        rw [if_pos (by omega), show ((k : Int) + 1 - 1).toNat = k by omega, hy]
        rfl
      rw [ha]
      obtain ⟨b, off, rfl, hcell⟩ := HCL.out (by rintro rfl; simp at hk)
      have hcy := hcell k y hy
      have hw1 : IntKind.i64.wrap ((k : Int) + 1 - 1) = k := by rw [IntWalk.i64_in _ (by omega)]; omega
      have hw2 : (k : Int) + 1 - 1 = k := by omega
      have hki : (k : Int) < l.length := by omega
      clear ha hcell hy
      go_enter Tryz.func43, Tryz.ntmps43
      go_wp2
      go_ret2
      exact ⟨rfl, rfl⟩

end Go.Proofs.YtliimglbbiebiaaGreatDoor
end

section
/- sort.Search, over a test that turns nothing. -/
namespace Go.Proofs.YtliimglbbiebiaaGreatDoor
open Go.RowKit

set_option maxHeartbeats 1600000 in
theorem search_any (g : Nat) (cb : Array Value) (n : Nat) (p : Nat → Bool) (w : World) (hE : ∀ args w, (callFunc g args).run Tryz.prog w = .ok (.enter g args) w) (hn : n ≤ 1000000)
    (hf : ∀ (W : World) (i : Nat), i < n → New w W → Calls Tryz.prog g (#[.int .i64 i] ++ cb) W fun e w' => e = .returned (.bool (p i)) ∧ New w w') :
    Calls Tryz.prog 297 #[.int .i64 n, .func (.func g) #[] cb] w fun e w' => ∃ k : Nat, e = .returned (.int .i64 k) ∧ k ≤ n ∧ (k = 0 ∨ p (k - 1) = false) ∧ (k = n ∨ p k = true) ∧ New w w' := by
  have HF := Lib.hid hf
  clear hf
  go_enter Tryz.func297, Tryz.ntmps297
  go_wp2
  go_loopw [5, 6] (fun vi vj wr => ∃ i j : Nat, vi = .int .i64 i ∧ vj = .int .i64 j ∧ i ≤ j ∧ j ≤ n ∧ Hid ((i = 0 ∨ p (i - 1) = false) ∧ (j = n ∨ p j = true)) ∧ New w wr) (fun vi vj _ => (intOf vj - intOf vi).toNat)
  case atStart => exact ⟨0, n, rfl, rfl, Nat.zero_le _, Nat.le_refl _, ⟨.inl rfl, .inl rfl⟩, New.refl _⟩
  case round =>
    obtain ⟨i, j, rfl, rfl, hij, hjn, HI, hnew⟩ := hrel
    by_cases hlt : i < j
    · obtain ⟨h, hh⟩ : ∃ h, h = (i + j) / 2 := ⟨_, rfl⟩
      have h1 : i ≤ h := by omega
      have h2 : h < j := by omega
      have hd : decide ((i : Int) < j) = true := decide_eq_true (by omega)
      have e1 : IntKind.i64.wrap ((i : Int) + j) = (i : Int) + j := IntWalk.i64_in _ (by omega)
      have e2 : IntKind.u64.wrap ((i : Int) + j) = (i : Int) + j := by simp [IntKind.wrap, IntKind.bits, IntKind.signed]; omega
      have e3 : ((i : Int) + j) / 2 = h := by omega
      have e4 : IntKind.i64.wrap (h : Int) = h := IntWalk.i64_in _ (by omega)
      have hcall := HF.out _ h (by omega) hnew
      have HH := Lib.hid hh
      clear hh
      cases hp : p h
      all_goals
        rw [hp] at hcall
        have HP := Lib.hid hp
        have HCALL := Lib.hid hcall
        clear hp hcall
        go_wp2_with fail
        refine HCALL.out.mono ?_
        rintro e w1 ⟨rfl, hn1⟩
        go_wp2
      · go_roundw
        case rel => exact ⟨h + 1, j, by go_num, rfl, by omega, hjn, ⟨.inr (by rw [Nat.add_sub_cancel]; exact HP.out), HI.out.2⟩, hn1⟩
        case measure => simp [intOf]; omega
      · go_roundw
        case rel => exact ⟨i, h, rfl, rfl, h1, by omega, ⟨HI.out.1, .inr HP.out⟩, hn1⟩
        case measure => simp [intOf]; omega
    · have hd : decide ((i : Int) < j) = false := decide_eq_false (by omega)
      have hij' : i = j := by omega
      have HIJ := Lib.hid hij'
      clear hij'
      go_wp2
      go_ret
      exact ⟨i, rfl, by omega, HI.out.1, by have := HI.out.2; rw [← HIJ.out] at this; exact this, hnew⟩

end Go.Proofs.YtliimglbbiebiaaGreatDoor
end

section
/- An index: the test that find hands to sort.Search. -/
namespace Go.Proofs.YtliimglbbiebiaaGreatDoor
open Go.RowKit Go.Shelf Go.Proofs

set_option maxHeartbeats 800000 in
theorem find1_any {base x bx bu : Nat} {w W : World} {l : List Int} {uid : Int} (h : IdxAt base w x l) (hbx : w.cell? ⟨bx, 0, none⟩ = some (.pointer (some ⟨x, 0, none⟩))) (hbu : w.cell? ⟨bu, 0, none⟩ = some (.int .u32 uid)) (hn : New w W) (i : Nat) (y : Int) (hy : l[i]? = some y) (hl : l.length ≤ 100000) :
    Calls Tryz.prog 298 #[.int .i64 i, .pointer (some ⟨bx, 0, none⟩), .pointer (some ⟨bu, 0, none⟩)] W fun e w' => e = .returned (.bool (decide (uid ≤ y))) ∧ New w w' := by
  obtain ⟨u, hb, hr⟩ := h
  obtain ⟨A, c, rfl, hlc, hcells⟩ := hr.rd.ints
  have hi : i < l.length := (List.getElem?_eq_some_iff.1 hy).1
  obtain ⟨b, off, rfl, hcell⟩ := hcells (by rintro rfl; simp at hi)
  have c1 := fun n => (Fr.cell (hn.drewN n) (hb.cell 0) id : (W.drewN n).cell? ⟨x, 0, none⟩ = some (.slice (some ⟨b, off, none⟩) l.length c))
  have c2 := fun n => Fr.cell (hn.drewN n) hbx id
  have c3 := fun n => Fr.cell (hn.drewN n) hbu id
  have c4 := fun n => Fr.cell (hn.drewN n) (hcell i y hy) id
  have hiI : (i : Int) < l.length := by omega
  have HN := Lib.hid hn
  clear hn hcell hcells hr hb hbx hbu hy
  go_enter Tryz.func298, Tryz.ntmps298
  go_wp2_with fail
  go_quiet (fail)
  go_wp2
  go_ret
  exact ⟨rfl, HN.out.drewN _⟩

/-- Place k is where uid stands, or would stand, in an ascending list. -/
def FindAt (l : List Int) (uid : Int) (k : Nat) : Prop := k ≤ l.length ∧ (k = 0 ∨ ∃ y, l[k - 1]? = some y ∧ ¬ uid ≤ y) ∧ (k = l.length ∨ ∃ y, l[k]? = some y ∧ uid ≤ y)

set_option maxHeartbeats 800000 in
theorem find_any {base x : Nat} {w : World} {l : List Int} (h : IdxAt base w x l) (hl : l.length ≤ 100000) (uid : Int) :
    Calls Tryz.prog 241 #[.pointer (some ⟨x, 0, none⟩), .int .u32 uid] w fun e w' => ∃ k : Nat, e = .returned (.int .i64 k) ∧ FindAt l uid k ∧ New w w' := by
  have hn1 : New w ((w.alloc (.cells #[.pointer (some ⟨x, 0, none⟩)] 88)).alloc (.cells #[.int .u32 uid] 28)) := ((New.refl w).alloc _).alloc _
  have b1 := (Blk.new w 88 #[.pointer (some ⟨x, 0, none⟩)]).alloc (.cells #[.int .u32 uid] 28)
  have b2 := Blk.new (w.alloc (.cells #[.pointer (some ⟨x, 0, none⟩)] 88)) 28 #[.int .u32 uid]
  rw [World.size_alloc] at b2
  have h1 := h.new hn1
  have hs := search_any 298 #[.pointer (some ⟨w.heap.size, 0, none⟩), .pointer (some ⟨w.heap.size + 1, 0, none⟩)] l.length (fun i => decide (uid ≤ l[i]?.getD 0)) _ (enters_of Tryz.func298 (by kernel_rfl) rfl) (by omega)
    (fun W i hi hW => find1_any h1 (b1.cell 0) (b2.cell 0) hW i (l[i]?.getD 0) (by rw [List.getElem?_eq_getElem hi]; rfl) hl)
  have HS := Lib.hid hs
  obtain ⟨u, hb, hr⟩ := h1
  obtain ⟨A, c, rfl, _⟩ := hr.form
  have c0 := b1.cell 0
  have c1 : ((w.alloc (.cells #[.pointer (some ⟨x, 0, none⟩)] 88)).alloc (.cells #[.int .u32 uid] 28)).cell? ⟨x, 0, none⟩ = some (.slice A l.length c) := hb.cell 0
  clear hs hr hb h
  go_enter Tryz.func241, Tryz.ntmps241
  go_wp2_with fail
  refine HS.out.mono ?_
  rintro e w1 ⟨k, rfl, hk, hk1, hk2, hn2⟩
  go_wp2
  go_ret
  refine ⟨k, rfl, ⟨hk, ?_, ?_⟩, hn1.trans hn2⟩
  · rcases hk1 with h | h
    · exact .inl h
    · by_cases h0 : k = 0
      · exact .inl h0
      · obtain ⟨y, hy⟩ : ∃ y, l[k - 1]? = some y := ⟨_, List.getElem?_eq_getElem (by omega)⟩
        refine .inr ⟨y, hy, ?_⟩
        rw [hy] at h
        simpa using h
  · rcases hk2 with h | h
    · exact .inl h
    · by_cases h0 : k = l.length
      · exact .inl h0
      · obtain ⟨y, hy⟩ : ∃ y, l[k]? = some y := ⟨_, List.getElem?_eq_getElem (by omega)⟩
        refine .inr ⟨y, hy, ?_⟩
        rw [hy] at h
        simpa using h

end Go.Proofs.YtliimglbbiebiaaGreatDoor
end

section
/- Strictly ascending lists of integers: the one with given members, insertion. Plain lemmas; of no program. -/
namespace Go.Proofs.YtliimglbbiebiaaGreatDoor
open Go.RowKit

/-- Strictly ascending. -/
def Asc (s : List Int) : Prop := s.Pairwise (· < ·)

theorem Asc.nil : Asc [] := List.Pairwise.nil
theorem Asc.tail {x : Int} {s : List Int} (h : Asc (x :: s)) : Asc s := (List.pairwise_cons.1 h).2
theorem Asc.head {x : Int} {s : List Int} (h : Asc (x :: s)) {y : Int} (hy : y ∈ s) : x < y := (List.pairwise_cons.1 h).1 y hy

theorem Asc.ext {s t : List Int} (hs : Asc s) (ht : Asc t) (h : ∀ x, x ∈ s ↔ x ∈ t) : s = t := by
  induction s generalizing t with
  | nil =>
    cases t with
    | nil => rfl
    | cons y t => exact absurd ((h y).2 (by simp)) (by simp)
  | cons x s ih =>
    cases t with
    | nil => exact absurd ((h x).1 (by simp)) (by simp)
    | cons y t =>
      have hxy : x = y := by
        have h1 := (h x).1 (by simp)
        have h2 := (h y).2 (by simp)
        rcases List.mem_cons.1 h1 with h1 | h1
        · exact h1
        · rcases List.mem_cons.1 h2 with h2 | h2
          · exact h2.symm
          · have := hs.head h2; have := ht.head h1; omega
      subst hxy
      refine congrArg _ (ih hs.tail ht.tail fun z => ?_)
      constructor
      · intro hz
        have h1 := hs.head hz
        rcases List.mem_cons.1 ((h z).1 (by simp [hz])) with rfl | h2
        · omega
        · exact h2
      · intro hz
        have h1 := ht.head hz
        rcases List.mem_cons.1 ((h z).2 (by simp [hz])) with rfl | h2
        · omega
        · exact h2

theorem Asc.get {s : List Int} (h : Asc s) {i j : Nat} {x y : Int} (hi : s[i]? = some x) (hj : s[j]? = some y) (hij : i < j) : x < y := by
  obtain ⟨h1, rfl⟩ := List.getElem?_eq_some_iff.1 hi
  obtain ⟨h2, rfl⟩ := List.getElem?_eq_some_iff.1 hj
  exact List.pairwise_iff_getElem.1 h i j h1 h2 hij
theorem Asc.of_get {s : List Int} (h : ∀ (i j : Nat) (x y : Int), s[i]? = some x → s[j]? = some y → i < j → x < y) : Asc s :=
  List.pairwise_iff_getElem.2 fun i j hi hj hij => h i j _ _ (List.getElem?_eq_getElem hi) (List.getElem?_eq_getElem hj) hij
theorem Asc.inj {s : List Int} (h : Asc s) {i j : Nat} {x : Int} (hi : s[i]? = some x) (hj : s[j]? = some x) : i = j := by
  rcases Nat.lt_trichotomy i j with h1 | h1 | h1
  · have := h.get hi hj h1; omega
  · exact h1
  · have := h.get hj hi h1; omega

/-- Put in at a place before which all is less and from which on all is greater. -/
theorem Asc.put {s : List Int} (h : Asc s) {y : Int} {k : Nat} (h1 : k = 0 ∨ ∃ x, s[k - 1]? = some x ∧ x < y) (h2 : ∀ x ∈ s.drop k, y < x) : Asc (s.take k ++ [y] ++ s.drop k) := by
  have hlt : ∀ x ∈ s.take k, x < y := by
    intro x hx
    obtain ⟨i, hi⟩ := List.mem_iff_getElem?.1 hx
    have hik : i < k ∧ i < s.length := by have := (List.getElem?_eq_some_iff.1 hi).1; rw [List.length_take] at this; omega
    rw [List.getElem?_take_of_lt hik.1] at hi
    rcases h1 with h1 | ⟨z, hz, hzy⟩
    · omega
    · by_cases he : i = k - 1
      · subst he; rw [hi] at hz; cases hz; exact hzy
      · have := h.get hi hz (by omega); omega
  have ha : Asc (s.take k) := List.Pairwise.sublist (List.take_sublist k s) h
  have hb : Asc (s.drop k) := List.Pairwise.sublist (List.drop_sublist k s) h
  have hab : ∀ x ∈ s.take k, ∀ z ∈ s.drop k, x < z := fun x hx z hz => Int.lt_trans (hlt x hx) (h2 z hz)
  unfold Asc at *
  rw [List.append_assoc]
  refine List.pairwise_append.2 ⟨ha, List.pairwise_append.2 ⟨by simp, hb, fun a hm b hbm => ?_⟩, fun a hm b hbm => ?_⟩
  · rw [List.mem_singleton.1 hm]; exact h2 b hbm
  · rcases List.mem_append.1 hbm with h3 | h3
    · rw [List.mem_singleton.1 h3]; exact hlt a hm
    · exact hab a hm b h3

theorem mem_put {s : List Int} {y z : Int} {k : Nat} : z ∈ s.take k ++ [y] ++ s.drop k ↔ z = y ∨ z ∈ s := by
  have : z ∈ s ↔ z ∈ s.take k ∨ z ∈ s.drop k := by
    conv => lhs; rw [← List.take_append_drop k s]
    exact List.mem_append
  rw [this]
  simp only [List.mem_append, List.mem_singleton]
  constructor
  · rintro ((h | h) | h)
    · exact .inr (.inl h)
    · exact .inl h
    · exact .inr (.inr h)
  · rintro (h | h | h)
    · exact .inl (.inr h)
    · exact .inl (.inl h)
    · exact .inr h

/-- The list that stands for l: ascending, the members of l that are not 0. -/
def AscOf (l s : List Int) : Prop := Asc s ∧ ∀ x, x ∈ s ↔ x ∈ l ∧ x ≠ 0
theorem AscOf.ext {l s t : List Int} (hs : AscOf l s) (ht : AscOf l t) : s = t := hs.1.ext ht.1 fun x => (hs.2 x).trans (ht.2 x).symm

end Go.Proofs.YtliimglbbiebiaaGreatDoor
end

section
/- The library's iterator slices.Values at []uint32: for every loop body that keeps what lay below n₀. -/
namespace Go.Proofs.YtliimglbbiebiaaGreatDoor
open Go.RowKit Go.Shelf Go.Proofs
attribute [local go_sem] Oper.semAt_some

/-- Slice sv reads as zs, out of a block below n₀; or there are none. -/
def RdBelow (n₀ : Nat) (W : World) (sv : Value) (zs : List Int) : Prop :=
  (zs = [] ∧ ∃ A c, sv = .slice A 0 c) ∨ ∃ b off cap, sv = .slice (some ⟨b, off, none⟩) zs.length cap ∧ b < n₀ ∧ ∀ j, j < zs.length → W.cell? ⟨b, off + j, none⟩ = some (.int .u32 (zs[j]?.getD 0))
theorem RdBelow.below {n₀ : Nat} {A B : World} (h : Below n₀ A B) {sv : Value} {zs : List Int} : RdBelow n₀ A sv zs → RdBelow n₀ B sv zs
  | .inl e => .inl e
  | .inr ⟨b, off, cap, e, hb, hc⟩ => .inr ⟨b, off, cap, e, hb, fun j hj => (h.cell (p := ⟨b, off + j, none⟩) hb).trans (hc j hj)⟩

theorem RdBelow.of {w : World} {v : Value} {l : List Int} {n₀ : Nat} (h : Rd (intE .u32) w v l) (hn : l ≠ [] → ∀ b, v.ownBlock = some b → b < n₀) : RdBelow n₀ w v l := by
  obtain ⟨A, c, rfl, _, hcells⟩ := h.ints
  by_cases hl : l = []
  · subst hl
    exact .inl ⟨rfl, A, c, rfl⟩
  · obtain ⟨b, off, rfl, hc⟩ := hcells hl
    exact .inr ⟨_, _, _, rfl, hn hl _ rfl, fun j hj => hc j _ (by rw [List.getElem?_eq_getElem hj]; rfl)⟩

theorem take_getD {zs : List Int} {k : Nat} (h : k < zs.length) : zs.take (k + 1) = zs.take k ++ [zs[k]?.getD 0] := by
  rw [List.take_add_one, List.getElem?_eq_getElem h]
  rfl

set_option maxRecDepth 100000 in
set_option maxHeartbeats 2000000 in
theorem uvalues1_in (F : Fence) (n : Nat) (hf : F.fn 83) (hro : F.round = none) (hn : 1 ≤ n) (l Bs n₀ b off cap : Nat) (zs : List Int) (hlen : zs.length ≤ 1000000) (hb : b < n₀) (J Jx : List Int → World → Prop)
    (hY : ∀ pre x W, J pre W → pre.length < zs.length → YieldAt F (n - 1) Tryz.prog l #[.int .u32 x] W fun e W' =>
      (e = .returned (.bool true) ∧ J (pre ++ [x]) W' ∧ Below n₀ W W') ∨ (e = .returned (.bool false) ∧ Jx (pre ++ [x]) W'))
    (W : World) (hBs : W.cell? ⟨Bs, 0, none⟩ = some (.slice (some ⟨b, off, none⟩) zs.length cap)) (hc : ∀ j, j < zs.length → W.cell? ⟨b, off + j, none⟩ = some (.int .u32 (zs[j]?.getD 0))) (h0 : J [] W) :
    CallsIn F n Tryz.prog 83 #[.func (.yield l) #[] #[], .pointer (some ⟨Bs, 0, none⟩)] W fun e W' => (∃ v, e = .returned v) ∧
      (J zs W' ∨ (∃ pre, pre <+: zs ∧ Jx pre W')) := by
  refine callsIn_of_wp Tryz.func83 rfl hf ?_ hro
  simp only [Tryz.ntmps83, List.size_toArray, List.length_cons, List.length_nil, Nat.reduceAdd, Nat.reduceSub, Array.replicate_succ, Array.replicate_zero, List.push_toArray, List.append_toArray, List.nil_append, List.cons_append]
  gi_wp2
  gi_loopw [7] (fun i wr => ∃ k : Nat, k ≤ zs.length ∧ i = .int .i64 k ∧ J (zs.take k) wr ∧ Below n₀ W wr)
    (fun i _ => zs.length - (intOf i).toNat)
  case atStart => exact ⟨0, Nat.zero_le _, rfl, h0, Below.refl _ _⟩
  case round =>
    obtain ⟨k, hk, rfl, hJs, hnx⟩ := hrel
    have hcx : k < zs.length → wr.cell? ⟨b, off + k, none⟩ = some (.int .u32 (zs[k]?.getD 0)) := fun h => (hnx.cell (p := ⟨b, off + k, none⟩) hb).trans (hc k h)
    by_cases hlt : k < zs.length
    · have htk := take_getD hlt
      obtain ⟨x, hx⟩ : ∃ x, zs[k]?.getD 0 = x := ⟨_, rfl⟩
      rw [hx] at htk hcx
      have HTK := Lib.hid htk
      clear hx htk
      obtain ⟨fn, tmps, assign, body, hy, hR⟩ := hY _ x wr hJs (by rw [List.length_take]; omega)
      have hcx' := hcx hlt
      gi_wp2
      refine hR.mono ?_
      rintro e W3 (⟨rfl, hJ3, hk3⟩ | ⟨rfl, hJx3⟩)
      · gi_wp2
        go_roundw
        case rel => exact ⟨k + 1, by omega, by simp, by rw [HTK.out]; exact hJ3, hnx.trans hk3⟩
        case measure => simp [intOf]; omega
      · gi_wp2
        refine bodyPost_ret (results_none rfl _ _ _) rfl ?_
        exact ⟨⟨_, rfl⟩, .inr ⟨_, List.take_prefix (k + 1) zs, by rw [HTK.out]; exact hJx3⟩⟩
    · obtain rfl : k = zs.length := by omega
      rw [List.take_length] at hJs
      gi_wp2
      go_end0
      exact ⟨⟨_, rfl⟩, .inl hJs⟩

set_option maxRecDepth 100000 in
set_option maxHeartbeats 1000000 in
theorem uvalues1_nil_in (F : Fence) (n : Nat) (hf : F.fn 83) (hro : F.round = none) (l Bs : Nat) (J : List Int → World → Prop) (W : World) (A : Option Addr) (c : Nat) (hBs : W.cell? ⟨Bs, 0, none⟩ = some (.slice A 0 c)) (h0 : J [] W) :
    CallsIn F n Tryz.prog 83 #[.func (.yield l) #[] #[], .pointer (some ⟨Bs, 0, none⟩)] W fun e W' => (∃ v, e = .returned v) ∧ J [] W' := by
  refine callsIn_of_wp Tryz.func83 rfl hf ?_ hro
  simp only [Tryz.ntmps83, List.size_toArray, List.length_cons, List.length_nil, Nat.reduceAdd, Nat.reduceSub, Array.replicate_succ, Array.replicate_zero, List.push_toArray, List.append_toArray, List.nil_append, List.cons_append]
  gi_wp2
  gi_loopw [7] (fun i wr => i = .int .i64 0 ∧ J [] wr) (fun _ _ => 0)
  case atStart => exact ⟨rfl, h0⟩
  case round =>
    obtain ⟨rfl, hJs⟩ := hrel
    gi_wp2
    go_end0
    exact ⟨⟨_, rfl⟩, hJs⟩

/-- slices.Values(s)'s value: all of zs in order, or a prefix. -/
theorem uvalues_stops (F : Fence) (n : Nat) (hf : F.fn 83) (hro : F.round = none) (hn : 1 ≤ n) (Bs n₀ : Nat) (sv : Value) (zs : List Int) (hlen : zs.length ≤ 1000000) (w : World) (hBs : Bs < w.heap.size) (hn₀ : n₀ ≤ w.heap.size)
    (hc : w.cell? ⟨Bs, 0, none⟩ = some sv) (hI : RdBelow n₀ w sv zs) :
    SeqStopsK F n Tryz.prog 83 #[.pointer (some ⟨Bs, 0, none⟩)] (fun x : Int => #[Value.int .u32 x]) (Below n₀) (fun ys => ys = zs) (fun pre => pre <+: zs) zs.length w := fun l J Jx W hW _ _ hY h0 => by
  have hc' := (hW.cell (p := ⟨Bs, 0, none⟩) hBs).trans hc
  rcases hI.below (hW.mono hn₀) with ⟨rfl, A, c, rfl⟩ | ⟨b, off, cap, rfl, hb, hcs⟩
  · exact (uvalues1_nil_in F n hf hro l Bs J W A c hc' h0).mono fun e W' ⟨he, hj⟩ => ⟨he, .inl ⟨_, rfl, hj⟩⟩
  · refine (uvalues1_in F n hf hro hn l Bs n₀ b off cap zs hlen hb J Jx hY W hc' hcs h0).mono ?_
    rintro e W' ⟨he, hj | ⟨pre, hp, hj⟩⟩
    · exact ⟨he, .inl ⟨_, rfl, hj⟩⟩
    · exact ⟨he, .inr ⟨_, hp, hj⟩⟩

set_option maxHeartbeats 1000000 in
theorem uvalues_any (a : Option Addr) (len cap : Nat) (w : World) :
    Calls Tryz.prog 60 #[.slice a len cap] w fun e w' => e = .returned (.func (.func 83) #[] #[.pointer (some ⟨w.heap.size, 0, none⟩)]) ∧ w' = w.alloc (.cells #[.slice a len cap] 58) := by
  go_enter Tryz.func60, Tryz.ntmps60
  go_wp2
  go_ret
  exact ⟨rfl, rfl⟩

end Go.Proofs.YtliimglbbiebiaaGreatDoor
end

