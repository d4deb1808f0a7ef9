/- Part 11 of the proof of StripeAgrees: With, IntSl, StAlive, StNil, OpenSt. -/
import Derived.Test.YtjnaihhkbbeaoaaGStripeAgreesAJ
import Derived.Test.YtjnaihhkbbeaoaaRows
import Derived.WalkKit
import Derived.WalkSpells
import Derived.WalkLawsBesides
import Derived.Deep.QuietTactic
import Derived.BigQuiet
import Derived.Lib.Hide
import Derived.ProofKit
import Derived.OpenShut
import Derived.Deep.Slices
import Derived.Deep.Fields
import Derived.ChangeSame

section
/- A table of messages in stripes: Sizes, With. -/
namespace Go.Proofs.Ytjnaihhkbbeaoaa
open Go.RowKit Go.Maps

/-- A function that turns no stripe is called with a stripe's messages, under its lock. -/
theorem tdo2_any {base : Nat} {w : World} {T : Tb} {X : List MB} (h : TBX base w T X) {i : Nat} (hi : i < T.n) (fn : Nat) (cap : Array Value) (S : Nat → Prop) (hS : ∀ k, S k → ¬ T.foot k)
    (hSB : ∀ v l, Own (intE .u8) 5 base w v l → ∀ b, v.ownBlock = some b → ¬ S b) (Q : World → Prop) (hE : ∀ args w, (callFunc fn args).run Try.prog w = .ok (.enter fn args) w)
    (hf : Calls Try.prog fn (#[.map (some (T.mb i))] ++ cap) (w.setCell ⟨T.q i, 0, none⟩ (.int .i32 1)) fun e w2 => e = .returned (.tuple #[]) ∧ Fr S (w.setCell ⟨T.q i, 0, none⟩ (.int .i32 1)) w2 ∧ Q w2) :
    Calls Try.prog 26 #[.pointer (some ⟨T.q i, 0, none⟩), .func (.func fn) #[] cap] w fun e w' => e = .returned (.tuple #[]) ∧ ∃ w2, w' = w2.setCell ⟨T.q i, 0, none⟩ (.int .i32 0) ∧ Q w2 ∧ TBX base w' T X ∧ Fr (fun k => k = T.q i ∨ S k) w w' := by
  have hp := h.part i hi
  have hmq : T.mb i ≠ T.q i := (h.map i hi).ne_blk hp
  refine (do_any (T.q i) (T.mb i) fn cap (fun w2 => Fr S (w.setCell ⟨T.q i, 0, none⟩ (.int .i32 1)) w2 ∧ Q w2) w hp hE hf ?_).mono ?_
  · rintro w2 ⟨h2, _⟩
    exact h2.blk (hp.set_ 0 _) (fun hs => hS _ hs (h.rq i hi))
  · rintro e w' ⟨rfl, w2, ⟨h2, h7⟩, rfl⟩
    have hp2 : Blk w2 (T.q i) 72 #[.int .i32 1, .int .u32 0, .map (some (T.mb i))] := h2.blk (hp.set_ 0 _) (fun hs => hS _ hs (h.rq i hi))
    have hF : Fr (fun k => k = T.q i ∨ S k) w (w2.setCell ⟨T.q i, 0, none⟩ (.int .i32 0)) :=
      Fr.setCell (Fr.trans (((Fr.refl _ _)).setCell (fun _ => .inl rfl) _) (fr_or h2 fun _ h => .inr h)) (fun _ => .inl rfl) _
    refine ⟨rfl, w2, rfl, h7, h.turn hi hF (fun k hk => ?_) (hp2.set_ 0 _) ((((h.map i hi).setCell (a := ⟨T.q i, 0, none⟩) hmq _).fr h2 (fun hs => hS _ hs (h.rm i hi))).setCell (a := ⟨T.q i, 0, none⟩) hmq _) (fun _ _ _ => rfl) (fun x hx => ?_) h.nd h.ok, hF⟩
    · rcases hk with hk | hk
      · exact .inl hk
      · exact .inr (.inr (hS k hk))
    · refine (h.body x hx).fr hF fun b hb hs => ?_
      rcases hs with rfl | hs
      · obtain ⟨cs, h9⟩ := (h.body x hx).heap hb
        exact hp.ne_ h9 (by decide) rfl
      · exact hSB _ _ (h.body x hx) b hb hs

theorem int_info2 : (Try.prog.info? 3).map (fun i => (i.zero, i.size, i.bytes)) = some (some (.int .i64 0), 1, 8) := by kernel_rfl

set_option maxHeartbeats 1600000 in
theorem sizes1_any {w : World} {mb ob base : Nat} {l : List (Int × Value)} {v0 : Value} {acc : List Int} (h : HasMap uKeys w mb l) (hob : Blk w ob 28 #[v0]) (hrow : Own (intE .i64) 3 base w v0 acc) (hbs : base ≤ w.heap.size) (hlen : acc.length ≤ 1000000) :
    Calls Try.prog 27 #[.map (some mb), .pointer (some ⟨ob, 0, none⟩)] w fun e w' => e = .returned (.tuple #[]) ∧ Fr (fun k => k = ob ∨ v0.ownBlock = some k) w w' ∧ ∃ v, Blk w' ob 28 #[v] ∧ Own (intE .i64) 3 base w' v (acc ++ [(l.length : Int)]) ∧
      (v.ownBlock = v0.ownBlock ∨ ∃ b, v.ownBlock = some b ∧ w.heap.size ≤ b) := by
  obtain ⟨i0, hi, hz0, hz1, hz2⟩ := info_parts int_info2
  have co : w.cell? ⟨ob, 0, none⟩ = some v0 := hob.cell 0
  have zo := hob.frozen 0
  have hol := hob.lt
  obtain ⟨A, n, c, rfl⟩ := own_shape hrow
  have hl := fun ty => h.run_len (t := 64) (e := 34) Try.underlying64 ty
  have hO := hrow.alloc (.cells #[.int .i64 l.length] 3)
  have hsz : (w.alloc (.cells #[.int .i64 l.length] 3)).heap.size = w.heap.size + 1 := by simp
  go_enter Try.func27, Try.ntmps27
  go_wp2_with (first
    | (at_builtin; refine wpList_len (E := uKeys) rfl _ 64 34 rfl Try.underlying64 h rfl ?_)
    | (at_builtin; refine wpList_push (E := intE .i64) rfl _ _ _ rfl Try.underlying28 hi hz0 hz1 hz2 rfl hO rfl (l.length : Int) w.heap.size (Blk.new _ _ _) 1 rfl (by unfold maxLen; omega) (by omega) (by omega) ?_; intro v2 w2 hv2 hf2 hl2
       obtain ⟨A2, n2, c2, rfl⟩ := own_shape hv2
       have hb2 : Blk w2 ob 28 #[.slice A n c] := hf2.blk (hob.alloc _) (fun hs => by obtain ⟨cs, h1⟩ := hrow.heap hs; exact h1.ne_ hob (by decide) rfl)
       have co2 := hb2.cell 0
       have zo2 := hb2.frozen 0)
    | fail)
  first | go_end0 | (simp only [Exit.inBlock, Exit.then]; refine bodyPost_ret (results_none rfl _ _ _) rfl ?_) | refine bodyPost_ret (results_none rfl _ _ _) rfl ?_
  refine ⟨rfl, (Fr.trans ((Fr.refl _ _).alloc _) (fr_or hf2 fun k hk => .inr hk)).setCell (fun _ => .inl rfl) _, _, hb2.set_ 0 _, ?_, ?_⟩
  · refine hv2.fr (S := fun k => k = ob) ((Fr.refl (fun k => k = ob) _).setCell (p := ⟨ob, 0, none⟩) (fun _ => rfl) _) fun b hb hs => ?_
    obtain ⟨cs, h1⟩ := hv2.heap hb
    exact h1.ne_ hb2 (by decide) hs
  · rcases hl2 with h1 | h1
    · exact .inl h1
    · exact .inr ⟨_, h1, by rw [hsz]; omega⟩

set_option maxHeartbeats 400000 in
theorem tsizes_nil (w : World) : Calls Try.prog 12 #[.pointer none] w fun e w' => e = .returned (.slice none 0 0) ∧ w' = w := by
  go_enter Try.func12, Try.ntmps12
  go_wp2
  go_ret
  exact ⟨rfl, rfl⟩
set_option maxHeartbeats 400000 in
theorem twith_nil (f : Int) (w : World) : Calls Try.prog 15 #[.pointer none, .int .u8 f] w fun e w' => e = .returned (.slice none 0 0) ∧ New w w' := by
  go_enter Try.func15, Try.ntmps15
  go_wp2
  go_ret
  exact ⟨rfl, (New.refl w).alloc _⟩

theorem ent_len (n i : Nat) (X : List MB) : (ent n i X).length = (strM n i (X.map MB.m)).length := by
  unfold ent strM
  rw [List.length_map, List.filter_map, List.length_map]
  rfl
theorem sizesM_take {n k : Nat} (hk : k < n) (M : List Msg) : (sizesM n M).take (k + 1) = (sizesM n M).take k ++ [((strM n k M).length : Int)] := by
  refine take_snoc ?_
  unfold sizesM
  rw [List.getElem?_map, List.getElem?_range hk]
  rfl
theorem sizesM_len (n : Nat) (M : List Msg) : (sizesM n M).length = n := by simp [sizesM]

/-- What the loop over the stripes has done: a slice in a box. -/
structure SzR (w0 wr : World) (base : Nat) (T : Tb) (X : List MB) (ob : Nat) (v : Value) (acc : List Int) : Prop where
  tbl : TBX base wr T X
  box : Blk wr ob 28 #[v]
  row : Own (intE .i64) 3 w0.heap.size wr v acc
  fr : Fr T.foot w0 wr

set_option maxRecDepth 100000 in
set_option maxHeartbeats 3200000 in
theorem tsizes_any {base : Nat} {w : World} {T : Tb} {X : List MB} (h : TBX base w T X) :
    Calls Try.prog 12 #[.pointer (some ⟨T.tb, 0, none⟩)] w fun e w' => ∃ o, e = .returned o ∧ Own (intE .i64) 3 w.heap.size w' o (sizesM T.n (X.map MB.m)) ∧ TBX base w' T X ∧ Fr T.foot w w' := by
  have hmf : ∀ (fn : Fn) (first cap : Array Value) (w : World), (Instr.makeFunc fn first cap).run Try.prog w = .ok (.func fn first cap) w := fun _ _ _ _ => rfl
  have hE := enters _ _ _ Try.func27 (by kernel_rfl) rfl
  have c0 : w.cell? ⟨T.tb, 0, none⟩ = some (.slice (some ⟨T.pb, 0, none⟩) T.n T.c) := h.hd.cell 0
  have htl := h.hd.lt
  have hn1 := h.n1
  have htop := h.top
  have H1 : Hid (SzR w (w.alloc (.cells #[.slice none 0 0] 28)) base T X w.heap.size (.slice none 0 0) []) := ⟨h.new ((New.refl w).alloc _), Blk.new _ _ _, Own.nil _ _ _ _, New.to ((New.refl w).alloc _)⟩
  go_enter Try.func12, Try.ntmps12
  go_wp2
  go_loopw [13] (fun vi wr => ∃ (k : Nat) (v : Value), vi = .int .i64 k ∧ k ≤ T.n ∧ Hid (SzR w wr base T X w.heap.size v ((sizesM T.n (X.map MB.m)).take k))) (fun vi _ => T.n - (intOf vi).toNat)
  case atStart => exact ⟨0, _, rfl, Nat.zero_le _, H1.out⟩
  case round =>
    obtain ⟨k, v, rfl, hk, HR⟩ := hrel
    clear H1
    have hsz := HR.out.fr.size
    by_cases hlt : k < T.n
    · have hd : decide ((k : Int) < T.n) = true := decide_eq_true (by omega)
      have hnI : (k : Int) < (T.n : Int) := by omega
      have hkw : IntKind.i64.wrap ((k : Int) + 1) = (k : Int) + 1 := IntWalk.i64_in _ (by omega)
      have hp := HR.out.tbl.ptr hlt
      have hpt := HR.out.tbl.part k hlt
      have hmq : T.mb k ≠ T.q k := (HR.out.tbl.map k hlt).ne_blk hpt
      have hoq : w.heap.size ≠ T.q k := HR.out.box.ne_ hpt (by decide)
      have hrb := fun b hb => (HR.out.row.block (b := b) hb).1
      have hrh := fun b hb => HR.out.row.heap (g := b) hb
      have hstep := sizesM_take hlt (X.map MB.m)
      obtain ⟨acc, hacc⟩ : ∃ acc, (sizesM T.n (X.map MB.m)).take k = acc := ⟨_, rfl⟩
      have hal : acc.length ≤ 16 := by rw [← hacc, List.length_take, sizesM_len]; omega
      rw [hacc] at hstep HR
      have HST := Lib.hid hstep
      have HD : Hid (Calls Try.prog 26 #[.pointer (some ⟨T.q k, 0, none⟩), .func (.func 27) #[] #[.pointer (some ⟨w.heap.size, 0, none⟩)]] wr fun e w' => e = .returned (.tuple #[]) ∧ ∃ v', SzR w w' base T X w.heap.size v' ((sizesM T.n (X.map MB.m)).take (k + 1))) := by
        refine (tdo2_any HR.out.tbl hlt 27 #[.pointer (some ⟨w.heap.size, 0, none⟩)] (fun k => k = w.heap.size ∨ v.ownBlock = some k) (fun b hb hft => ?_) (fun u l hu b hb hs => ?_) (fun w2 => ∃ v', Blk w2 w.heap.size 28 #[v'] ∧ Own (intE .i64) 3 w.heap.size w2 v' (acc ++ [((ent T.n k X).length : Int)]) ∧ (v'.ownBlock = v.ownBlock ∨ ∃ b, v'.ownBlock = some b ∧ wr.heap.size ≤ b)) hE ?_).mono ?_
        · have h2 := hft.2
          rcases hb with rfl | hb
          · omega
          · have := hrb _ hb; omega
        · obtain ⟨cs, h9⟩ := hu.heap hb
          rcases hs with rfl | hs
          · exact h9.ne_ HR.out.box (by decide) rfl
          · obtain ⟨cs', h10⟩ := hrh _ hs
            exact h9.ne_ h10 (by decide) rfl
        · have hb1 := HR.out.box.far (p := ⟨T.q k, 0, none⟩) hoq (.int .i32 1)
          have hr1 := HR.out.row.fr ((Fr.refl (fun k' => k' = T.q k) wr).setCell (p := ⟨T.q k, 0, none⟩) (fun _ => rfl) (.int .i32 1)) (fun b hb hs => by obtain ⟨cs, h9⟩ := hrh b hb; exact h9.ne_ hpt (by decide) hs)
          refine (sizes1_any ((HR.out.tbl.map k hlt).setCell (a := ⟨T.q k, 0, none⟩) hmq _) hb1 hr1 (by simpa [World.setCell] using hsz) (by omega)).mono ?_
          rintro e w2 ⟨rfl, h5, v', h6, h7, h8⟩
          exact ⟨rfl, h5, v', h6, h7, by simpa [World.setCell] using h8⟩
        · rintro e w' ⟨rfl, w2, rfl, ⟨v', h6, h7, h8⟩, h9, h10⟩
          refine ⟨rfl, v', h9, h6.far (p := ⟨T.q k, 0, none⟩) hoq _, ?_, Fr.trans' HR.out.fr h10 fun b hb hs => ?_⟩
          · rw [HST.out, ← ent_len]
            refine h7.fr (S := fun b => b = T.q k) ((Fr.refl (fun b => b = T.q k) _).setCell (p := ⟨T.q k, 0, none⟩) (fun _ => rfl) _) fun b hb hs => ?_
            obtain ⟨cs, h11⟩ := h7.heap hb
            subst hs
            have h12 := h9.part k hlt
            unfold Blk at h12 h11
            simp [World.setCell, Array.getElem?_modify, h11] at h12
          · rcases hs with rfl | rfl | hs
            · exact HR.out.tbl.rq k hlt
            · omega
            · have := hrb _ hs; omega
      have cwr : wr.cell? ⟨T.tb, 0, none⟩ = some (.slice (some ⟨T.pb, 0, none⟩) T.n T.c) := HR.out.tbl.hd.cell 0
      clear hstep hrb hrh hacc
      go_wp2_with fail
      refine HD.out.mono ?_
      rintro e w2 ⟨rfl, v', h2⟩
      have H2 := Lib.hid h2
      clear h2
      go_wp2
      go_roundw
      case rel => exact ⟨k + 1, v', by go_num, by omega, H2.out⟩
      case measure => simp [intOf]; omega
    · have hd : decide ((k : Int) < T.n) = false := decide_eq_false (by omega)
      have hc := HR.out.box.cell 0
      have hr := HR.out.row
      rw [List.take_of_length_le (by rw [sizesM_len]; omega)] at hr
      have HRR := Lib.hid hr
      clear hr
      go_wp2
      go_ret
      exact ⟨_, rfl, HRR.out, HR.out.tbl, HR.out.fr⟩

theorem filter_split {α : Type} (p q : α → Bool) (l : List α) (hpq : ∀ x ∈ l, ¬ (p x = true ∧ q x = true)) : (l.filter fun x => p x || q x).Perm (l.filter p ++ l.filter q) := by
  induction l with
  | nil => exact List.Perm.refl _
  | cons x l ih =>
    have ih := ih fun y hy => hpq y (List.mem_cons_of_mem _ hy)
    have hx := hpq x List.mem_cons_self
    cases hp : p x with
    | true =>
      have hq : q x = false := by cases hq : q x with
        | false => rfl
        | true => exact absurd ⟨hp, hq⟩ hx
      simp only [List.filter_cons, hp, hq, Bool.true_or, if_true]
      simpa using ih.cons x
    | false =>
      cases hq : q x with
      | true =>
        simp only [List.filter_cons, hp, hq, Bool.or_true, if_true]
        simpa using (ih.cons x).trans (List.perm_middle (a := x)).symm
      | false =>
        simp only [List.filter_cons, hp, hq]
        simpa using ih

theorem stripes_perm {n k : Nat} (X : List MB) : (X.filter fun x : MB => decide (x.m.uid % (n : Int) < ((k + 1 : Nat) : Int))).Perm ((X.filter fun x : MB => decide (x.m.uid % (n : Int) < (k : Int))) ++ X.filter fun x : MB => decide (x.m.uid % (n : Int) = (k : Int))) := by
  refine List.Perm.trans (List.Perm.of_eq (List.filter_congr fun x _ => ?_)) (filter_split (fun x : MB => decide (x.m.uid % (n : Int) < (k : Int))) (fun x : MB => decide (x.m.uid % (n : Int) = (k : Int))) X fun x _ h => ?_)
  · rw [Bool.eq_iff_iff]
    simp
    omega
  · simp at h
    omega

theorem withX_map (f : Int) (X : List MB) : withX f X = withL (X.map MB.m) f := by
  unfold withX withL
  rw [List.filter_map, List.map_map]
  rfl

theorem sort_perm {l l' : List Int} (h : l.Perm l') : (l.mergeSort fun x y => decide (x ≤ y)) = l'.mergeSort fun x y => decide (x ≤ y) := by
  have tr : ∀ a b c : Int, decide (a ≤ b) = true → decide (b ≤ c) = true → decide (a ≤ c) = true := fun a b c h1 h2 => by simp at *; omega
  have tt : ∀ a b : Int, (decide (a ≤ b) || decide (b ≤ a)) = true := fun a b => by simp; omega
  refine List.Perm.eq_of_pairwise (le := fun a b => decide (a ≤ b) = true) (fun a b _ _ h1 h2 => ?_) (List.pairwise_mergeSort tr tt l) (List.pairwise_mergeSort tr tt l') (((List.mergeSort_perm l _).trans h).trans (List.mergeSort_perm l' _).symm)
  simp at h1 h2
  omega

/-- What the loop over the stripes has collected. -/
structure WiR (w0 wr : World) (base : Nat) (T : Tb) (X : List MB) (f : Int) (k : Nat) (v : Value) (acc : List Int) : Prop where
  tbl : TBX base wr T X
  fb : Blk wr w0.heap.size 31 #[.int .u8 f]
  box : Blk wr (w0.heap.size + 1) 38 #[v]
  row : Own (intE .u32) 22 w0.heap.size wr v acc
  perm : acc.Perm (withX f (X.filter fun x : MB => decide (x.m.uid % (T.n : Int) < (k : Int))))
  fr : Fr T.foot w0 wr

theorem WiR.len {w0 wr base T X f k v acc} (h : WiR w0 wr base T X f k v acc) : acc.length ≤ X.length := by
  rw [h.perm.length_eq]
  exact Nat.le_trans (withX_len _ _) (List.length_filter_le _ _)

set_option maxRecDepth 100000 in
set_option maxHeartbeats 3200000 in
theorem twith_any {base : Nat} {w : World} {T : Tb} {X : List MB} (h : TBX base w T X) (hX : X.length ≤ 100000) (f : Int) (hf : 0 ≤ f ∧ f ≤ 255) :
    Calls Try.prog 15 #[.pointer (some ⟨T.tb, 0, none⟩), .int .u8 f] w fun e w' => ∃ o, e = .returned o ∧ Own (intE .u32) 22 w.heap.size w' o ((withL (X.map MB.m) f).mergeSort fun x y => decide (x ≤ y)) ∧ TBX base w' T X ∧ Fr T.foot w w' := by
  have hmf : ∀ (fn : Fn) (first cap : Array Value) (w : World), (Instr.makeFunc fn first cap).run Try.prog w = .ok (.func fn first cap) w := fun _ _ _ _ => rfl
  have hE := enters _ _ _ Try.func30 (by kernel_rfl) rfl
  have c0 : w.cell? ⟨T.tb, 0, none⟩ = some (.slice (some ⟨T.pb, 0, none⟩) T.n T.c) := h.hd.cell 0
  have htl := h.hd.lt
  have hn1 := h.n1
  have htop := h.top
  have H1 : Hid (WiR w ((w.alloc (.cells #[.int .u8 f] 31)).alloc (.cells #[.slice none 0 0] 38)) base T X f 0 (.slice none 0 0) []) :=
    ⟨h.new (((New.refl w).alloc _).alloc _), (Blk.new _ _ _).alloc _, Blk.new1 _ _ _ _, Own.nil _ _ _ _, by
      have : (X.filter fun x : MB => decide (x.m.uid % (T.n : Int) < ((0 : Nat) : Int))) = [] := by
        rw [List.filter_eq_nil_iff]
        intro x _
        have h0 := h.n0
        have := Int.emod_nonneg x.m.uid (b := (T.n : Int)) (by omega)
        simp
        omega
      rw [this]
      exact List.Perm.refl _, New.to (((New.refl w).alloc _).alloc _)⟩
  go_enter Try.func15, Try.ntmps15
  go_wp2
  go_loopw [15] (fun vi wr => ∃ (k : Nat) (v : Value) (acc : List Int), vi = .int .i64 k ∧ k ≤ T.n ∧ Hid (WiR w wr base T X f k v acc)) (fun vi _ => T.n - (intOf vi).toNat)
  case atStart => exact ⟨0, _, _, rfl, Nat.zero_le _, H1.out⟩
  case round =>
    obtain ⟨k, v, acc, rfl, hk, HR⟩ := hrel
    clear H1
    have hsz := HR.out.fr.size
    have hal := HR.out.len
    by_cases hlt : k < T.n
    · have hd : decide ((k : Int) < T.n) = true := decide_eq_true (by omega)
      have hnI : (k : Int) < (T.n : Int) := by omega
      have hkw : IntKind.i64.wrap ((k : Int) + 1) = (k : Int) + 1 := IntWalk.i64_in _ (by omega)
      have hp := HR.out.tbl.ptr hlt
      have hpt := HR.out.tbl.part k hlt
      have hmq : T.mb k ≠ T.q k := (HR.out.tbl.map k hlt).ne_blk hpt
      have hoq : w.heap.size + 1 ≠ T.q k := HR.out.box.ne_ hpt (by decide)
      have hfq : w.heap.size ≠ T.q k := HR.out.fb.ne_ hpt (by decide)
      have hrb := fun b hb => (HR.out.row.block (b := b) hb).1
      have hrh := fun b hb => HR.out.row.heap (g := b) hb
      have HD : Hid (Calls Try.prog 26 #[.pointer (some ⟨T.q k, 0, none⟩), .func (.func 30) #[] #[.pointer (some ⟨w.heap.size, 0, none⟩), .pointer (some ⟨w.heap.size + 1, 0, none⟩)]] wr fun e w' => e = .returned (.tuple #[]) ∧ ∃ v' acc', WiR w w' base T X f (k + 1) v' acc') := by
        refine (tdo2_any HR.out.tbl hlt 30 #[.pointer (some ⟨w.heap.size, 0, none⟩), .pointer (some ⟨w.heap.size + 1, 0, none⟩)] (fun k => k = w.heap.size + 1 ∨ v.ownBlock = some k) (fun b hb hft => ?_) (fun u l hu b hb hs => ?_)
          (fun w2 => ∃ v' dX, dX.Perm (X.filter fun x : MB => decide (x.m.uid % (T.n : Int) = (k : Int))) ∧ Blk w2 w.heap.size 31 #[.int .u8 f] ∧ Blk w2 (w.heap.size + 1) 38 #[v'] ∧ Own (intE .u32) 22 w.heap.size w2 v' (acc ++ withX f dX)) hE ?_).mono ?_
        · have h2 := hft.2
          rcases hb with rfl | hb
          · omega
          · have := hrb _ hb; omega
        · obtain ⟨cs, h9⟩ := hu.heap hb
          rcases hs with rfl | hs
          · exact h9.ne_ HR.out.box (by decide) rfl
          · obtain ⟨cs', h10⟩ := hrh _ hs
            exact h9.ne_ h10 (by decide) rfl
        · have hb1 := HR.out.box.far (p := ⟨T.q k, 0, none⟩) hoq (.int .i32 1)
          have hf1 := HR.out.fb.far (p := ⟨T.q k, 0, none⟩) hfq (.int .i32 1)
          have hr1 := HR.out.row.fr ((Fr.refl (fun k' => k' = T.q k) wr).setCell (p := ⟨T.q k, 0, none⟩) (fun _ => rfl) (.int .i32 1)) (fun b hb hs => by obtain ⟨cs, h9⟩ := hrh b hb; exact h9.ne_ hpt (by decide) hs)
          have hnd : ((X.filter fun x : MB => decide (x.m.uid % (T.n : Int) = (k : Int))).map fun x => x.m.uid).Nodup := h.nd.sublist (List.Sublist.map _ List.filter_sublist)
          have hfl : (X.filter fun x : MB => decide (x.m.uid % (T.n : Int) = (k : Int))).length ≤ X.length := List.length_filter_le _ _
          refine (with1_any (SX := X.filter fun x : MB => decide (x.m.uid % (T.n : Int) = (k : Int))) ((HR.out.tbl.map k hlt).setCell (a := ⟨T.q k, 0, none⟩) hmq _) hnd (fun x hx => by have := (h.ok x (List.mem_filter.1 hx).1).1.2; omega) hf1 hf hb1 hr1 (by simpa [World.setCell] using hsz) (by omega)).mono ?_
          rintro e w2 ⟨rfl, v', dX, h5, h6, h7, h8, h9⟩
          exact ⟨rfl, h9, v', dX, h5, h9.blk hf1 (fun hs => by rcases hs with hs | hs; (omega); have h10 := hrh _ hs; obtain ⟨cs, h10⟩ := h10; exact h10.ne_ HR.out.fb (by decide) rfl), h6, h7⟩
        · rintro e w' ⟨rfl, w2, rfl, ⟨v', dX, h5, h6, h7, h8⟩, h9, h10⟩
          refine ⟨rfl, v', acc ++ withX f dX, h9, h6.far (p := ⟨T.q k, 0, none⟩) hfq _, h7.far (p := ⟨T.q k, 0, none⟩) hoq _, ?_, ?_, Fr.trans' HR.out.fr h10 fun b hb hs => ?_⟩
          · refine h8.fr (S := fun b => b = T.q k) ((Fr.refl (fun b => b = T.q k) _).setCell (p := ⟨T.q k, 0, none⟩) (fun _ => rfl) _) fun b hb hs => ?_
            obtain ⟨cs, h11⟩ := h8.heap hb
            subst hs
            have h12 := h9.part k hlt
            unfold Blk at h12 h11
            simp [World.setCell, Array.getElem?_modify, h11] at h12
          · have h11 := withX_perm f (stripes_perm (n := T.n) (k := k) X)
            rw [withX_app] at h11
            exact (List.Perm.append HR.out.perm (withX_perm f h5)).trans h11.symm
          · rcases hs with rfl | rfl | hs
            · exact HR.out.tbl.rq k hlt
            · omega
            · have := hrb _ hs; omega
      have cwr : wr.cell? ⟨T.tb, 0, none⟩ = some (.slice (some ⟨T.pb, 0, none⟩) T.n T.c) := HR.out.tbl.hd.cell 0
      clear hrb hrh
      go_wp2_with fail
      refine HD.out.mono ?_
      rintro e w2 ⟨rfl, v', acc', h2⟩
      have H2 := Lib.hid h2
      clear h2
      go_wp2
      go_roundw
      case rel => exact ⟨k + 1, v', acc', by go_num, by omega, H2.out⟩
      case measure => simp [intOf]; omega
    · have hd : decide ((k : Int) < T.n) = false := decide_eq_false (by omega)
      have hc : wr.cell? ⟨w.heap.size + 1, 0, none⟩ = some v := HR.out.box.cell 0
      have hp2 : acc.Perm (withL (X.map MB.m) f) := by
        have h1 := HR.out.perm
        rw [← withX_map]
        have : (X.filter fun x : MB => decide (x.m.uid % (T.n : Int) < (k : Int))) = X := by
          rw [List.filter_eq_self]
          intro x _
          have h0 := h.n0
          have := Int.emod_lt_of_pos x.m.uid (b := (T.n : Int)) (by omega)
          simp
          omega
        rw [this] at h1
        exact h1
      have HP2 := Lib.hid hp2
      clear hp2
      go_wp2_with fail
      refine (usort_any HR.out.row (by omega)).mono ?_
      rintro e w2 ⟨rfl, hrow, hfr⟩
      rw [sort_perm HP2.out] at hrow
      have hb2 := hfr.blk HR.out.box (fun hs => by obtain ⟨cs, h10⟩ := HR.out.row.heap hs; exact h10.ne_ HR.out.box (by decide) rfl)
      have hc2 : w2.cell? ⟨w.heap.size + 1, 0, none⟩ = some v := hb2.cell 0
      have HROW := Lib.hid hrow
      have hrb := fun b hb => (HR.out.row.block (b := b) hb).1
      have HRB := Lib.hid hrb
      clear hrow hb2 hrb
      go_wp2
      go_ret
      refine ⟨_, rfl, HROW.out, HR.out.tbl.fr hfr (fun b hb hft => ?_) (fun u l hu b hb hs => ?_), Fr.trans' HR.out.fr hfr fun b hb hs => ?_⟩
      · have h1 := HRB.out b hb
        have h2 := hft.2
        omega
      · obtain ⟨cs, h9⟩ := hu.heap hb
        obtain ⟨cs', h10⟩ := HR.out.row.heap hs
        exact h9.ne_ h10 (by decide) rfl
      · have h1 := HRB.out b hs
        omega

end Go.Proofs.Ytjnaihhkbbeaoaa
end

section
/- The library's functions on []int: IndexFunc, ContainsFunc, DeleteFunc, Equal. -/
namespace Go.Proofs.Ytjnaihhkbbeaoaa
open Go.RowKit

abbrev okI (x : Int) : Prop := (Lit.int .i64 x).wf = true

/-- Function g, over what it has captured, is the predicate p, in every world in which all that lay in w lies unturned. -/
def IsPredI (w : World) (g : Nat) (lb : Array Value) (p : Int → Bool) : Prop :=
  ∀ (W : World) (x : Int), okI x → New w W → Calls Try.prog g (#[.int .i64 x] ++ lb) W fun e w' => e = .returned (.bool (p x)) ∧ New W w'

theorem entersI (f : Nat) (fn : Func) (c : Code) (hf : Try.prog.funcs[f]? = some fn) (hn : (fn.name == "runtime.NumGoroutine") = false) (hb : fn.body = some c) (args : Array Value) (w : World) : (callFunc f args).run Try.prog w = .ok (.enter f args) w := by
  have h1 : fn.name ≠ "runtime.NumGoroutine" := by simpa using hn
  simp [callFunc, hf, h1, hb]

/-- Where the first hit is. -/
def FirstAtI (p : Int → Bool) (l : List Int) (i : Int) : Prop := (i = -1 ∧ ∀ x ∈ l, p x = false) ∨ ∃ (k : Nat) (x : Int), i = k ∧ l[k]? = some x ∧ p x = true ∧ ∀ y ∈ l.take k, p y = false


set_option maxHeartbeats 1600000 in
theorem iequal_any (v u : Value) (l m : List Int) (w : World) (hv : Rd (intE .i64) w v l) (hu : Rd (intE .i64) w u m) (hl : l.length ≤ 1000000) (hm : m.length ≤ 1000000) :
    Calls Try.prog 21 #[v, u] w fun e w' => e = .returned (.bool (decide (l = m))) ∧ New w w' := by
  obtain ⟨A, c, rfl, hc, hA⟩ := hv.ints
  obtain ⟨B, d, rfl, hd, hB⟩ := hu.ints
  have HA := Lib.hid hA
  have HB := Lib.hid hB
  clear hA hB hv hu
  by_cases hlm : l.length = m.length
  · generalize hq : decide (l = m) = q
    have HQ := Lib.hid hq
    have HLM := Lib.hid hlm
    rw [← hlm]
    rw [← hlm] at hm
    clear hq hlm
    go_enter Try.func21, Try.ntmps21
    go_wp2
    go_loopw [13] (fun vi wr => ∃ k : Nat, k ≤ l.length ∧ vi = .int .i64 k ∧ Hid (∀ i, i < k → l[i]? = m[i]?) ∧ New w wr) (fun vi _ => l.length - (intOf vi).toNat)
    case atStart => exact ⟨0, Nat.zero_le _, rfl, fun i hi => by omega, New.refl _⟩
    case round =>
      obtain ⟨k, hk, rfl, HS, hnew⟩ := hrel
      by_cases hkl : k < l.length
      · obtain ⟨x, hx⟩ : ∃ x, l[k]? = some x := ⟨_, List.getElem?_eq_getElem hkl⟩
        obtain ⟨y, hy⟩ : ∃ y, m[k]? = some y := ⟨_, List.getElem?_eq_getElem (by have := HLM.out; omega)⟩
        obtain ⟨b, off, rfl, hcell⟩ := HA.out (by rintro rfl; simp at hkl)
        obtain ⟨b', off', rfl, hcell'⟩ := HB.out (by rintro rfl; simp at hy)
        have c0 : wr.cell? ⟨b, off + k, none⟩ = some (.int .i64 x) := Fr.cell hnew (hcell k _ hx) id
        have d0 : wr.cell? ⟨b', off' + k, none⟩ = some (.int .i64 y) := Fr.cell hnew (hcell' k _ hy) id
        have HX := Lib.hid hx
        have HY := Lib.hid hy
        clear hcell hcell' hx hy
        cases hxy : (x != y)
        all_goals
          have HXY := Lib.hid hxy
          go_wp2_with fail
          go_quiet (fail)
          go_wp2
        · go_roundw
          case rel =>
            refine ⟨k + 1, by omega, by go_num, fun i hi => ?_, hnew.drewN _⟩
            rcases Nat.lt_or_ge i k with h | h
            · exact HS.out i h
            · obtain rfl : i = k := by omega
              have : x = y := by simpa using HXY.out
              rw [HX.out, HY.out, this]
          case measure => simp [intOf]; omega
        · go_ret
          have hne : q = false := by
            rw [← HQ.out]
            refine decide_eq_false fun e => ?_
            have h1 := HX.out
            rw [e, HY.out] at h1
            injection h1 with h1
            have h2 : x ≠ y := by simpa using HXY.out
            exact h2 h1.symm
          rw [hne]
          exact ⟨rfl, hnew.drewN _⟩
      · go_wp2
        go_ret
        have he : q = true := by
          rw [← HQ.out]
          refine decide_eq_true (List.ext_getElem? fun i => ?_)
          rcases Nat.lt_or_ge i k with h | h
          · exact HS.out i h
          · rw [List.getElem?_eq_none (by omega), List.getElem?_eq_none (by have := HLM.out; omega)]
        rw [he]
        exact ⟨rfl, hnew⟩
  · have hne : decide (l = m) = false := decide_eq_false fun e => hlm (by rw [e])
    rw [hne]
    have hb : ((l.length : Int) != (m.length : Int)) = true := by simp; omega
    clear hne hlm
    go_enter Try.func21, Try.ntmps21
    go_wp2
    go_ret
    exact ⟨rfl, New.refl _⟩

end Go.Proofs.Ytjnaihhkbbeaoaa
end

section
/- The chapter's example of a table. -/
namespace Go.Proofs.Ytjnaihhkbbeaoaa
open Go.RowKit

theorem New.foot {w w1 w' : World} {T : Tb} (h : New w w1) (hf : Fr T.foot w1 w') (hlo : T.lo = w.heap.size) : New w w' := New.two h hf fun i hi => by rw [← hlo]; exact hi.1

/-- What is kept of a table that was made since w. -/
structure Made (w wr : World) (base : Nat) (T : Tb) (X : List MB) : Prop where
  tbl : TBX base wr T X
  lo : w.heap.size ≤ T.lo
  hi : T.hi ≤ base
  bs : base ≤ wr.heap.size
  new : New w wr

theorem Made.more {w wr w' : World} {base : Nat} {T : Tb} {X : List MB} (h : Made w wr base T X) (hn : New wr w') : Made w w' base T X := ⟨h.tbl.new hn, h.lo, h.hi, Nat.le_trans h.bs hn.size, h.new.trans hn⟩
theorem Made.turn {w wr w' : World} {base : Nat} {T : Tb} {X X' : List MB} (h : Made w wr base T X) (ht : TBX base w' T X') (hf : Fr T.foot wr w') : Made w w' base T X' :=
  ⟨ht, h.lo, h.hi, Nat.le_trans h.bs hf.size, New.two h.new hf fun _ hi => Nat.le_trans h.lo hi.1⟩
theorem Made.of {w w' : World} {T : Tb} {X : List MB} (h : TBX w'.heap.size w' T X) (hlo : T.lo = w.heap.size) (hhi : T.hi = w'.heap.size) (hn : New w w') : Made w w' w'.heap.size T X := ⟨h, Nat.le_of_eq hlo.symm, Nat.le_of_eq hhi, Nat.le_refl _, hn⟩

set_option maxRecDepth 100000 in
set_option maxHeartbeats 3200000 in
theorem salive_any (w : World) : Calls Try.prog 10 #[] w fun e w' => e = .returned (.bool true) ∧ New w w' := by
  go_enter Try.func10, Try.ntmps10
  go_wp2_with fail
  refine (tnew_any 4 (by omega) (by omega) _).mono ?_
  rintro e w1 ⟨T, rfl, hn4, hlo, hhi, hT, hn1⟩
  have HM := Lib.hid (Made.of hT hlo hhi hn1)
  clear hT hn1 hlo hhi
  have hof := fun wr (h : TBX w1.heap.size wr T []) => tof_any h 7 (by omega) (by omega)
  rw [hn4] at hof
  have HOF := Lib.hid hof
  clear hof
  go_wp2_with fail
  refine (HOF.out _ HM.out.tbl).mono ?_
  rintro e w2 ⟨rfl, rfl⟩
  go_wp2_with fail
  refine (tput_any HM.out.tbl HM.out.bs (by simp) ⟨⟨7, 8, []⟩, none, 0, 0⟩ (by simp [Msg.wf]) (Rd.nil _ _)).mono ?_
  rw [show putC (([] : List MB).map MB.m) ⟨7, 8, []⟩ = 0 from rfl, show putM (([] : List MB).map MB.m) ⟨7, 8, []⟩ = [⟨7, 8, []⟩] from rfl]
  rintro e w3 ⟨rfl, X, hX, hXl, hT3, hf3⟩
  have HM3 := Lib.hid (HM.out.turn hT3 hf3)
  have hXl : X.length ≤ 1 := hXl
  have HX := Lib.hid hX
  clear hX hT3 hf3 HM HOF
  go_wp2_with fail
  refine (tsizes_any HM3.out.tbl).mono ?_
  rw [HX.out, hn4, show sizesM 4 [(⟨7, 8, []⟩ : Msg)] = [0, 0, 0, 1] from by decide]
  rintro e w4 ⟨o, rfl, ho, hT4, hf4⟩
  have HM4 := Lib.hid (HM3.out.turn hT4 hf4)
  obtain ⟨oA, oc, rfl, _⟩ := ho.form
  have HO := Lib.hid ho
  clear ho hT4 hf4 HM3
  go_wp2_with fail
  refine (iequal_any _ _ [0, 0, 0, 1] [0, 0, 0, 1] _ (HO.out.rd.alloc _) (rd_block (intE .i64) (Blk.new _ _ _) [0, 0, 0, 1] rfl) (by simp) (by simp)).mono ?_
  rw [decide_eq_true rfl]
  rintro e w5 ⟨rfl, hn5⟩
  have HM5 := Lib.hid (HM4.out.more (((New.refl _).alloc _).trans hn5))
  clear hn5 HM4
  go_wp2_with fail
  refine (twith_any HM5.out.tbl (by omega) 8 (by omega)).mono ?_
  rw [HX.out, show (withL [(⟨7, 8, []⟩ : Msg)] 8) = [7] from by decide, List.mergeSort_singleton]
  rintro e w6 ⟨o, rfl, ho, hT6, hf6⟩
  have HM6 := Lib.hid (HM5.out.turn hT6 hf6)
  obtain ⟨oA, oc, rfl, _⟩ := ho.form
  have HO := Lib.hid ho
  clear ho hT6 hf6 HM5
  go_wp2_with fail
  refine (uequal_any _ _ [7] [7] _ (HO.out.rd.alloc _) (rd_block (intE .u32) (Blk.new _ _ _) [7] rfl) (by simp) (by simp)).mono ?_
  rw [decide_eq_true rfl]
  rintro e w7 ⟨rfl, hn7⟩
  go_wp2
  go_ret
  exact ⟨rfl, (HM6.out.more (((New.refl _).alloc _).trans hn7)).new⟩

end Go.Proofs.Ytjnaihhkbbeaoaa
end

section
/- StripeNil: the walk. -/
namespace Go.Proofs.Ytjnaihhkbbeaoaa
open Go.RowKit

/-- A message that comes in: its numbers fit, its body reads. -/
def MB.inn (W : World) (x : MB) : Prop := x.m.wf ∧ Rd (intE .u8) W x.bv x.m.body ∧ x.m.body.length ≤ maxLen

set_option maxRecDepth 100000 in
set_option maxHeartbeats 6400000 in
theorem nil_law (x : MB) (w : World) (hx : x.inn w) :
    Calls Try.prog 8 #[x.val] w fun e w' => e = .returned (.bool true) ∧ New w w' := by
  obtain ⟨hwf, hb, _⟩ := hx
  have hne := MB.len_eq hb
  obtain ⟨⟨uid, fl, body⟩, A, n, c⟩ := x
  dsimp only at hne
  subst hne
  have hnot : ∀ (x : Bool) (w : World), (Op.unary .not (.bool x)).run Try.prog w = .ok (.bool (!x)) w := fun _ _ => rfl
  have HB := Lib.hid hb
  have HWF := Lib.hid hwf
  simp only [MB.val]
  clear hb hwf
  rcases Nat.lt_or_ge 300 body.length with hl | hl
  · have hd : decide ((300 : Int) < body.length) = true := decide_eq_true (by omega)
    go_enter Try.func8, Try.ntmps8
    go_wp2_with fail
    refine (salive_any _).mono ?_
    rintro e w1 ⟨rfl, hn1⟩
    go_wp2
    go_ret
    exact ⟨rfl, ((New.refl w).alloc _).trans hn1⟩
  have hd : decide ((300 : Int) < body.length) = false := decide_eq_false (by omega)
  obtain ⟨wq, hwq⟩ : ∃ wq, wq = w.alloc (.cells #[.int .u32 uid, .int .u8 fl, .slice A body.length c] 34) := ⟨_, rfl⟩
  have hn1 : New w wq := by rw [hwq]; exact (New.refl w).alloc _
  have bg : Blk wq w.heap.size 34 #[.int .u32 uid, .int .u8 fl, .slice A body.length c] := by rw [hwq]; exact Blk.new _ _ _
  have HWQ := Lib.hid hwq
  clear hwq
  go_enter Try.func8, Try.ntmps8
  go_wp2_with fail
  rw [← HWQ.out]
  refine (tnew_any 2 (by omega) (by omega) _).mono ?_
  rintro e w1 ⟨T, rfl, hTn, hlo, hhi, hT, hn2⟩
  have HM := Lib.hid (Made.of hT hlo hhi hn2)
  clear hT
  go_wp2_with fail
  refine (tnew_any 2 (by omega) (by omega) _).mono ?_
  rintro e w2 ⟨T2, rfl, hTn2, hlo2, hhi2, hT2, hn3⟩
  have HM1 := Lib.hid (HM.out.more hn3)
  have HM2 := Lib.hid (Made.of hT2 hlo2 hhi2 hn3)
  have htop := HM.out.tbl.top
  have b2 := hn3.blk (hn2.blk bg)
  have c0 : w2.cell? ⟨w.heap.size, 0, none⟩ = some (.int .u32 uid) := b2.cell 0
  have c1 : w2.cell? ⟨w.heap.size, 1, none⟩ = some (.int .u8 fl) := b2.cell 1
  have c2 : w2.cell? ⟨w.heap.size, 2, none⟩ = some (.slice A body.length c) := b2.cell 2
  have hb2 := Lib.hid ((hn1.trans hn2).trans hn3)
  clear hT2 HM
  go_wp2_with fail
  refine (tput_any HM1.out.tbl (Nat.le_trans HM1.out.bs (Nat.le_refl _)) (by simp) ⟨⟨uid, fl, body⟩, A, body.length, c⟩ HWF.out (HB.out.new hb2.out)).mono ?_
  obtain ⟨pc, hpc⟩ : ∃ pc, putC (([] : List MB).map MB.m) ⟨uid, fl, body⟩ = pc := ⟨_, rfl⟩
  rw [hpc]
  rintro e w3 ⟨rfl, X, hX, hXl, hT3, hf3⟩
  have HM3 := Lib.hid (HM1.out.turn hT3 hf3)
  have hfn3 : Fr (fun i => wq.heap.size ≤ i) w2 w3 := fr_or hf3 fun i hi => by rw [← hlo]; exact hi.1
  have b3 := hfn3.blk b2 (by simp; have := hn1.size; have := bg.lt; omega)
  have HT2 := Lib.hid (HM2.out.tbl.fr hf3 (fun i hi hft => by have h1 := hi.2; have h2 := hft.1; omega) (fun v l hv b hb hs => by have h1 := (hv.block hb).1; have h2 := hs.2; have h3 := hn3.size; omega))
  have c30 : w3.cell? ⟨w.heap.size, 0, none⟩ = some (.int .u32 uid) := b3.cell 0
  have c31 : w3.cell? ⟨w.heap.size, 1, none⟩ = some (.int .u8 fl) := b3.cell 1
  have c32 : w3.cell? ⟨w.heap.size, 2, none⟩ = some (.slice A body.length c) := b3.cell 2
  have hs3 := b3.lt
  clear hX hXl hT3 hf3 hpc c0 c1 c2 b2 bg
  go_wp2_with fail
  refine (tget_nil uid _).mono ?_
  rintro e w4 ⟨rfl, hn4⟩
  have b4 := hn4.blk b3
  have c40 : w4.cell? ⟨w.heap.size, 0, none⟩ = some (.int .u32 uid) := b4.cell 0
  have hl4 := b4.lt
  simp only [MB.val, mb0, msg0]
  go_wp2_with fail
  refine (tremove_nil uid _).mono ?_
  rintro e w5 ⟨rfl, hn5⟩
  have b5 := hn5.blk (b4.alloc (.cells #[.int .u32 0, .int .u8 0, .slice none 0 0] 34))
  have c50 : w5.cell? ⟨w.heap.size, 0, none⟩ = some (.int .u32 uid) := b5.cell 0
  have hl5 := b5.lt
  simp only [MB.val, mb0, msg0]
  go_wp2_with fail
  refine (tflags_nil uid 0 0 _).mono ?_
  rintro e w6 ⟨rfl, hn6⟩
  have b6 := hn6.blk (b5.alloc (.cells #[.int .u32 0, .int .u8 0, .slice none 0 0] 34))
  have HN6 : Hid (New w3 w6) := Lib.hid (Fr.trans (Fr.trans (hn4.alloc (.cells #[.int .u32 0, .int .u8 0, .slice none 0 0] 34)) hn5 |>.alloc (.cells #[.int .u32 0, .int .u8 0, .slice none 0 0] 34)) hn6)
  clear hn4 hn5 hn6 b4 b5 b3 hl4 hl5 c30 c31 c32 c40 c50
  go_wp2_with fail
  refine (salive_any _).mono ?_
  rintro e w7 ⟨rfl, hn7⟩
  have b7 := hn7.blk b6
  have c70 : w7.cell? ⟨w.heap.size, 0, none⟩ = some (.int .u32 uid) := b7.cell 0
  have c71 : w7.cell? ⟨w.heap.size, 1, none⟩ = some (.int .u8 fl) := b7.cell 1
  have c72 : w7.cell? ⟨w.heap.size, 2, none⟩ = some (.slice A body.length c) := b7.cell 2
  go_wp2_with fail
  refine (tput_nil ⟨⟨uid, fl, body⟩, A, body.length, c⟩ _).mono ?_
  rintro e w8 ⟨rfl, hn8⟩
  have c80 : w8.cell? ⟨w.heap.size, 0, none⟩ = some (.int .u32 uid) := (hn8.blk b7).cell 0
  go_wp2_with fail
  refine (tstripes_nil _).mono ?_
  rintro e w9 ⟨rfl, rfl⟩
  go_wp2_with fail
  refine (tof_nil uid _).mono ?_
  rintro e w10 ⟨rfl, rfl⟩
  go_wp2_with fail
  refine (twith_nil 0 _).mono ?_
  rintro e w11 ⟨rfl, hn11⟩
  go_wp2_with fail
  refine (tsizes_nil _).mono ?_
  rintro e w12 ⟨rfl, rfl⟩
  have HN12 := Lib.hid (((HN6.out.trans hn7).trans hn8).trans hn11)
  have hT12 := HT2.out.new HN12.out
  go_wp2_with fail
  refine (twith_any hT12 (by simp) 0 (by omega)).mono ?_
  rw [show (withL (([] : List MB).map MB.m) 0) = [] from rfl, List.mergeSort_nil]
  rintro e w13 ⟨o, rfl, ho, hT13, hf13⟩
  obtain ⟨oA, oc, rfl, _⟩ := ho.form
  go_wp2
  go_ret
  refine ⟨by simp, New.two (hn1.trans (HM3.out.new.trans HN12.out)) hf13 fun i hi => ?_⟩
  have h1 := hi.1
  have h2 := hn1.size
  have h3 := hn2.size
  omega

end Go.Proofs.Ytjnaihhkbbeaoaa
end

section
/- How an argument that is a slice of structs of one-cell fields is opened. Plain lemmas; of no program. -/
namespace Go.Proofs.Ytjnaihhkbbeaoaa
open Go.ChangeShapes Go.WideShapes Go.ChangeAt Go.RowKit Go.Deep

section
variable {H : Type} {enc : TypeId × Value → H} {P : Program} {w : World} {base : Nat} {spare : Nat → Bool} {held : Bool}
theorem open_slice_fields {t e : TypeId} {fs : Array Field} {fuel : Nat} {cs : List Value} {x : DataW H × List MemPlace} (ht : P.underlying t = some (.slice e)) (he : P.underlying e = some (.struct fs))
    (hone : oneCellFields P fs = true) (hC : P.cellsOf e = fs.size) (h : DataW.trod enc P w base spare held fuel t cs = some x) :
    (cs = [.slice none 0 0] ∧ x = (.nil, [])) ∨
    ∃ (a : Addr) (len cap m : Nat) (D : Nat → DataW H) (Pl : Nat → List MemPlace), cs = [.slice (some a) len cap] ∧ base ≤ a.block ∧ len ≤ cap ∧ cap ≤ maxLen ∧ m = (if spare a.block then cap else len) ∧
      x = (.slice ((List.range len).map D) ((List.range (m - len)).map fun j => D (len + j)), MemPlace.row a (m * fs.size) ++ (List.range m).flatMap Pl) ∧
      ∀ i, i < m → ∃ (ys : List (DataW H × List MemPlace)) (n : Nat), D i = .agg (ys.map (·.1)) ∧ Pl i = ys.flatMap (·.2) ∧ ys.length = fs.size ∧
        ∀ (j : Nat) (f : Field), fs[j]? = some f → ∃ (v : Value) (y : DataW H × List MemPlace), w.cell? (a.add (i * fs.size + j)) = some v ∧ ys[j]? = some y ∧ DataW.trod enc P w base spare held n f.type [v] = some y := by
  rcases open_slice ht h with h0 | ⟨a, len, cap, m, n, D, Pl, hcs, hb, hl, hm, hmm, hx, hi⟩
  · exact .inl h0
  · refine .inr ⟨a, len, cap, m, D, Pl, hcs, hb, hl, hm, hmm, by rw [hC] at hx; exact hx, fun i him => ?_⟩
    obtain ⟨cs', hc, ht'⟩ := hi i him
    rw [hC] at hc
    obtain ⟨ys, n', hn', hy, hlen, hyl, hf⟩ := DataW.trod_struct he ht'
    obtain ⟨_, hcl, hat⟩ := World.cells?_some hc
    simp only [Prod.mk.injEq] at hy
    refine ⟨ys, n', hy.1, hy.2, hyl, fun j f hj => ?_⟩
    obtain ⟨ho, hk⟩ := hone_of hone j f hj
    have hjl : j < fs.size := (Array.getElem?_eq_some_iff.1 hj).1
    have hcell := hat j hjl
    have hv : cs'[j]? = some (cs'[j]'(by omega)) := List.getElem?_eq_getElem (by omega)
    have h1 := hf j f hj
    rw [ho, hk] at h1
    have hone' : (cs'.drop j).take 1 = [cs'[j]'(by omega)] := by
      rw [List.drop_eq_getElem_cons (by omega)]
      rfl
    rw [hone'] at h1
    have hys : ys[j]? = some (ys[j]'(by omega)) := List.getElem?_eq_getElem (by omega)
    refine ⟨_, _, ?_, hys, h1.trans hys⟩
    rw [← Go.Deep.add_add, hcell, hv]
end

theorem spot_none0 {w : World} {b off : Nat} {s : Option Nat} {v : Value} (h : w.cell? ((⟨b, off, s⟩ : Addr).add 0) = some v) : s = none := by
  simpa [Addr.add] using World.cell?_spot h

end Go.Proofs.Ytjnaihhkbbeaoaa
end

