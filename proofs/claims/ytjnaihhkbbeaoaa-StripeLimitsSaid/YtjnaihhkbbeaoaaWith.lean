/- A table of messages in stripes: Sizes, With. -/
import Derived.Test.YtjnaihhkbbeaoaaWith1
namespace Go.Proofs.Ytjnaihhkbbeaoaa
open Go.RowKit Go.Maps

/-- A function that turns no stripe is called with a stripe's messages, under its lock. -/
theorem tdo2_any {base : Nat} {w : World} {T : Tb} {X : List MB} (h : TBX base w T X) {i : Nat} (hi : i < T.n) (fn : Nat) (cap : Array Value) (S : Nat → Prop) (hS : ∀ k, S k → ¬ T.foot k)
    (hSB : ∀ v l, Own (intE .u8) 5 base w v l → ∀ b, v.ownBlock = some b → ¬ S b) (Q : World → Prop) (hE : ∀ args w, (callFunc fn args).run Try.prog w = .ok (.enter fn args) w)
    (hf : Calls Try.prog fn (#[.map (some (T.mb i))] ++ cap) (w.setCell ⟨T.q i, 0, none⟩ (.int .i32 1)) fun e w2 => e = .returned (.tuple #[]) ∧ Fr S (w.setCell ⟨T.q i, 0, none⟩ (.int .i32 1)) w2 ∧ Q w2) :
    Calls Try.prog 26 #[.pointer (some ⟨T.q i, 0, none⟩), .func (.func fn) #[] cap] w fun e w' => e = .returned (.tuple #[]) ∧ ∃ w2, w' = w2.setCell ⟨T.q i, 0, none⟩ (.int .i32 0) ∧ Q w2 ∧ TBX base w' T X ∧ Fr (fun k => k = T.q i ∨ S k) w w' := by
  have hp := h.part i hi
  have hmq : T.mb i ≠ T.q i := (h.map i hi).ne_blk hp
  refine (do_any (T.q i) (T.mb i) fn cap (fun w2 => Fr S (w.setCell ⟨T.q i, 0, none⟩ (.int .i32 1)) w2 ∧ Q w2) w hp hE hf ?_).mono ?_
  · rintro w2 ⟨h2, _⟩
    exact h2.blk (hp.set_ 0 _) (fun hs => hS _ hs (h.rq i hi))
  · rintro e w' ⟨rfl, w2, ⟨h2, h7⟩, rfl⟩
    have hp2 : Blk w2 (T.q i) 72 #[.int .i32 1, .int .u32 0, .map (some (T.mb i))] := h2.blk (hp.set_ 0 _) (fun hs => hS _ hs (h.rq i hi))
    have hF : Fr (fun k => k = T.q i ∨ S k) w (w2.setCell ⟨T.q i, 0, none⟩ (.int .i32 0)) :=
      Fr.setCell (Fr.trans (((Fr.refl _ _)).setCell (fun _ => .inl rfl) _) (fr_or h2 fun _ h => .inr h)) (fun _ => .inl rfl) _
    refine ⟨rfl, w2, rfl, h7, h.turn hi hF (fun k hk => ?_) (hp2.set_ 0 _) ((((h.map i hi).setCell (a := ⟨T.q i, 0, none⟩) hmq _).fr h2 (fun hs => hS _ hs (h.rm i hi))).setCell (a := ⟨T.q i, 0, none⟩) hmq _) (fun _ _ _ => rfl) (fun x hx => ?_) h.nd h.ok, hF⟩
    · rcases hk with hk | hk
      · exact .inl hk
      · exact .inr (.inr (hS k hk))
    · refine (h.body x hx).fr hF fun b hb hs => ?_
      rcases hs with rfl | hs
      · obtain ⟨cs, h9⟩ := (h.body x hx).heap hb
        exact hp.ne_ h9 (by decide) rfl
      · exact hSB _ _ (h.body x hx) b hb hs

theorem int_info2 : (Try.prog.info? 3).map (fun i => (i.zero, i.size, i.bytes)) = some (some (.int .i64 0), 1, 8) := by kernel_rfl

set_option maxHeartbeats 1600000 in
theorem sizes1_any {w : World} {mb ob base : Nat} {l : List (Int × Value)} {v0 : Value} {acc : List Int} (h : HasMap uKeys w mb l) (hob : Blk w ob 28 #[v0]) (hrow : Own (intE .i64) 3 base w v0 acc) (hbs : base ≤ w.heap.size) (hlen : acc.length ≤ 1000000) :
    Calls Try.prog 27 #[.map (some mb), .pointer (some ⟨ob, 0, none⟩)] w fun e w' => e = .returned (.tuple #[]) ∧ Fr (fun k => k = ob ∨ v0.ownBlock = some k) w w' ∧ ∃ v, Blk w' ob 28 #[v] ∧ Own (intE .i64) 3 base w' v (acc ++ [(l.length : Int)]) ∧
      (v.ownBlock = v0.ownBlock ∨ ∃ b, v.ownBlock = some b ∧ w.heap.size ≤ b) := by
  obtain ⟨i0, hi, hz0, hz1, hz2⟩ := info_parts int_info2
  have co : w.cell? ⟨ob, 0, none⟩ = some v0 := hob.cell 0
  have zo := hob.frozen 0
  have hol := hob.lt
  obtain ⟨A, n, c, rfl⟩ := own_shape hrow
  have hl := fun ty => h.run_len (t := 64) (e := 34) Try.underlying64 ty
  have hO := hrow.alloc (.cells #[.int .i64 l.length] 3)
  have hsz : (w.alloc (.cells #[.int .i64 l.length] 3)).heap.size = w.heap.size + 1 := by simp
  go_enter Try.func27, Try.ntmps27
  go_wp2_with (first
    | (at_builtin; refine wpList_len (E := uKeys) rfl _ 64 34 rfl Try.underlying64 h rfl ?_)
    | (at_builtin; refine wpList_push (E := intE .i64) rfl _ _ _ rfl Try.underlying28 hi hz0 hz1 hz2 rfl hO rfl (l.length : Int) w.heap.size (Blk.new _ _ _) 1 rfl (by unfold maxLen; omega) (by omega) (by omega) ?_; intro v2 w2 hv2 hf2 hl2
       obtain ⟨A2, n2, c2, rfl⟩ := own_shape hv2
       have hb2 : Blk w2 ob 28 #[.slice A n c] := hf2.blk (hob.alloc _) (fun hs => by obtain ⟨cs, h1⟩ := hrow.heap hs; exact h1.ne_ hob (by decide) rfl)
       have co2 := hb2.cell 0
       have zo2 := hb2.frozen 0)
    | fail)
  first | go_end0 | (simp only [Exit.inBlock, Exit.then]; refine bodyPost_ret (results_none rfl _ _ _) rfl ?_) | refine bodyPost_ret (results_none rfl _ _ _) rfl ?_
  refine ⟨rfl, (Fr.trans ((Fr.refl _ _).alloc _) (fr_or hf2 fun k hk => .inr hk)).setCell (fun _ => .inl rfl) _, _, hb2.set_ 0 _, ?_, ?_⟩
  · refine hv2.fr (S := fun k => k = ob) ((Fr.refl (fun k => k = ob) _).setCell (p := ⟨ob, 0, none⟩) (fun _ => rfl) _) fun b hb hs => ?_
    obtain ⟨cs, h1⟩ := hv2.heap hb
    exact h1.ne_ hb2 (by decide) hs
  · rcases hl2 with h1 | h1
    · exact .inl h1
    · exact .inr ⟨_, h1, by rw [hsz]; omega⟩

set_option maxHeartbeats 400000 in
theorem tsizes_nil (w : World) : Calls Try.prog 12 #[.pointer none] w fun e w' => e = .returned (.slice none 0 0) ∧ w' = w := by
  go_enter Try.func12, Try.ntmps12
  go_wp2
  go_ret
  exact ⟨rfl, rfl⟩
set_option maxHeartbeats 400000 in
theorem twith_nil (f : Int) (w : World) : Calls Try.prog 15 #[.pointer none, .int .u8 f] w fun e w' => e = .returned (.slice none 0 0) ∧ New w w' := by
  go_enter Try.func15, Try.ntmps15
  go_wp2
  go_ret
  exact ⟨rfl, (New.refl w).alloc _⟩

theorem ent_len (n i : Nat) (X : List MB) : (ent n i X).length = (strM n i (X.map MB.m)).length := by
  unfold ent strM
  rw [List.length_map, List.filter_map, List.length_map]
  rfl
theorem sizesM_take {n k : Nat} (hk : k < n) (M : List Msg) : (sizesM n M).take (k + 1) = (sizesM n M).take k ++ [((strM n k M).length : Int)] := by
  refine take_snoc ?_
  unfold sizesM
  rw [List.getElem?_map, List.getElem?_range hk]
  rfl
theorem sizesM_len (n : Nat) (M : List Msg) : (sizesM n M).length = n := by simp [sizesM]

/-- What the loop over the stripes has done: a slice in a box. -/
structure SzR (w0 wr : World) (base : Nat) (T : Tb) (X : List MB) (ob : Nat) (v : Value) (acc : List Int) : Prop where
  tbl : TBX base wr T X
  box : Blk wr ob 28 #[v]
  row : Own (intE .i64) 3 w0.heap.size wr v acc
  fr : Fr T.foot w0 wr

set_option maxRecDepth 100000 in
set_option maxHeartbeats 3200000 in
theorem tsizes_any {base : Nat} {w : World} {T : Tb} {X : List MB} (h : TBX base w T X) :
    Calls Try.prog 12 #[.pointer (some ⟨T.tb, 0, none⟩)] w fun e w' => ∃ o, e = .returned o ∧ Own (intE .i64) 3 w.heap.size w' o (sizesM T.n (X.map MB.m)) ∧ TBX base w' T X ∧ Fr T.foot w w' := by
  have hmf : ∀ (fn : Fn) (first cap : Array Value) (w : World), (Instr.makeFunc fn first cap).run Try.prog w = .ok (.func fn first cap) w := fun _ _ _ _ => rfl
  have hE := enters _ _ _ Try.func27 (by kernel_rfl) rfl
  have c0 : w.cell? ⟨T.tb, 0, none⟩ = some (.slice (some ⟨T.pb, 0, none⟩) T.n T.c) := h.hd.cell 0
  have htl := h.hd.lt
  have hn1 := h.n1
  have htop := h.top
  have H1 : Hid (SzR w (w.alloc (.cells #[.slice none 0 0] 28)) base T X w.heap.size (.slice none 0 0) []) := ⟨h.new ((New.refl w).alloc _), Blk.new _ _ _, Own.nil _ _ _ _, New.to ((New.refl w).alloc _)⟩
  go_enter Try.func12, Try.ntmps12
  go_wp2
  go_loopw [13] (fun vi wr => ∃ (k : Nat) (v : Value), vi = .int .i64 k ∧ k ≤ T.n ∧ Hid (SzR w wr base T X w.heap.size v ((sizesM T.n (X.map MB.m)).take k))) (fun vi _ => T.n - (intOf vi).toNat)
  case atStart => exact ⟨0, _, rfl, Nat.zero_le _, H1.out⟩
  case round =>
    obtain ⟨k, v, rfl, hk, HR⟩ := hrel
    clear H1
    have hsz := HR.out.fr.size
    by_cases hlt : k < T.n
    · have hd : decide ((k : Int) < T.n) = true := decide_eq_true (by omega)
      have hnI : (k : Int) < (T.n : Int) := by omega
      have hkw : IntKind.i64.wrap ((k : Int) + 1) = (k : Int) + 1 := IntWalk.i64_in _ (by omega)
      have hp := HR.out.tbl.ptr hlt
      have hpt := HR.out.tbl.part k hlt
      have hmq : T.mb k ≠ T.q k := (HR.out.tbl.map k hlt).ne_blk hpt
      have hoq : w.heap.size ≠ T.q k := HR.out.box.ne_ hpt (by decide)
      have hrb := fun b hb => (HR.out.row.block (b := b) hb).1
      have hrh := fun b hb => HR.out.row.heap (g := b) hb
      have hstep := sizesM_take hlt (X.map MB.m)
      obtain ⟨acc, hacc⟩ : ∃ acc, (sizesM T.n (X.map MB.m)).take k = acc := ⟨_, rfl⟩
      have hal : acc.length ≤ 16 := by rw [← hacc, List.length_take, sizesM_len]; omega
      rw [hacc] at hstep HR
      have HST := Lib.hid hstep
      have HD : Hid (Calls Try.prog 26 #[.pointer (some ⟨T.q k, 0, none⟩), .func (.func 27) #[] #[.pointer (some ⟨w.heap.size, 0, none⟩)]] wr fun e w' => e = .returned (.tuple #[]) ∧ ∃ v', SzR w w' base T X w.heap.size v' ((sizesM T.n (X.map MB.m)).take (k + 1))) := by
        refine (tdo2_any HR.out.tbl hlt 27 #[.pointer (some ⟨w.heap.size, 0, none⟩)] (fun k => k = w.heap.size ∨ v.ownBlock = some k) (fun b hb hft => ?_) (fun u l hu b hb hs => ?_) (fun w2 => ∃ v', Blk w2 w.heap.size 28 #[v'] ∧ Own (intE .i64) 3 w.heap.size w2 v' (acc ++ [((ent T.n k X).length : Int)]) ∧ (v'.ownBlock = v.ownBlock ∨ ∃ b, v'.ownBlock = some b ∧ wr.heap.size ≤ b)) hE ?_).mono ?_
        · have h2 := hft.2
          rcases hb with rfl | hb
          · omega
          · have := hrb _ hb; omega
        · obtain ⟨cs, h9⟩ := hu.heap hb
          rcases hs with rfl | hs
          · exact h9.ne_ HR.out.box (by decide) rfl
          · obtain ⟨cs', h10⟩ := hrh _ hs
            exact h9.ne_ h10 (by decide) rfl
        · have hb1 := HR.out.box.far (p := ⟨T.q k, 0, none⟩) hoq (.int .i32 1)
          have hr1 := HR.out.row.fr ((Fr.refl (fun k' => k' = T.q k) wr).setCell (p := ⟨T.q k, 0, none⟩) (fun _ => rfl) (.int .i32 1)) (fun b hb hs => by obtain ⟨cs, h9⟩ := hrh b hb; exact h9.ne_ hpt (by decide) hs)
          refine (sizes1_any ((HR.out.tbl.map k hlt).setCell (a := ⟨T.q k, 0, none⟩) hmq _) hb1 hr1 (by simpa [World.setCell] using hsz) (by omega)).mono ?_
          rintro e w2 ⟨rfl, h5, v', h6, h7, h8⟩
          exact ⟨rfl, h5, v', h6, h7, by simpa [World.setCell] using h8⟩
        · rintro e w' ⟨rfl, w2, rfl, ⟨v', h6, h7, h8⟩, h9, h10⟩
          refine ⟨rfl, v', h9, h6.far (p := ⟨T.q k, 0, none⟩) hoq _, ?_, Fr.trans' HR.out.fr h10 fun b hb hs => ?_⟩
          · rw [HST.out, ← ent_len]
            refine h7.fr (S := fun b => b = T.q k) ((Fr.refl (fun b => b = T.q k) _).setCell (p := ⟨T.q k, 0, none⟩) (fun _ => rfl) _) fun b hb hs => ?_
            obtain ⟨cs, h11⟩ := h7.heap hb
            subst hs
            have h12 := h9.part k hlt
            unfold Blk at h12 h11
            simp [World.setCell, Array.getElem?_modify, h11] at h12
          · rcases hs with rfl | rfl | hs
            · exact HR.out.tbl.rq k hlt
            · omega
            · have := hrb _ hs; omega
      have cwr : wr.cell? ⟨T.tb, 0, none⟩ = some (.slice (some ⟨T.pb, 0, none⟩) T.n T.c) := HR.out.tbl.hd.cell 0
      clear hstep hrb hrh hacc
      go_wp2_with fail
      refine HD.out.mono ?_
      rintro e w2 ⟨rfl, v', h2⟩
      have H2 := Lib.hid h2
      clear h2
      go_wp2
      go_roundw
      case rel => exact ⟨k + 1, v', by go_num, by omega, H2.out⟩
      case measure => simp [intOf]; omega
    · have hd : decide ((k : Int) < T.n) = false := decide_eq_false (by omega)
      have hc := HR.out.box.cell 0
      have hr := HR.out.row
      rw [List.take_of_length_le (by rw [sizesM_len]; omega)] at hr
      have HRR := Lib.hid hr
      clear hr
      go_wp2
      go_ret
      exact ⟨_, rfl, HRR.out, HR.out.tbl, HR.out.fr⟩

theorem filter_split {α : Type} (p q : α → Bool) (l : List α) (hpq : ∀ x ∈ l, ¬ (p x = true ∧ q x = true)) : (l.filter fun x => p x || q x).Perm (l.filter p ++ l.filter q) := by
  induction l with
  | nil => exact List.Perm.refl _
  | cons x l ih =>
    have ih := ih fun y hy => hpq y (List.mem_cons_of_mem _ hy)
    have hx := hpq x List.mem_cons_self
    cases hp : p x with
    | true =>
      have hq : q x = false := by cases hq : q x with
        | false => rfl
        | true => exact absurd ⟨hp, hq⟩ hx
      simp only [List.filter_cons, hp, hq, Bool.true_or, if_true]
      simpa using ih.cons x
    | false =>
      cases hq : q x with
      | true =>
        simp only [List.filter_cons, hp, hq, Bool.or_true, if_true]
        simpa using (ih.cons x).trans (List.perm_middle (a := x)).symm
      | false =>
        simp only [List.filter_cons, hp, hq]
        simpa using ih

theorem stripes_perm {n k : Nat} (X : List MB) : (X.filter fun x : MB => decide (x.m.uid % (n : Int) < ((k + 1 : Nat) : Int))).Perm ((X.filter fun x : MB => decide (x.m.uid % (n : Int) < (k : Int))) ++ X.filter fun x : MB => decide (x.m.uid % (n : Int) = (k : Int))) := by
  refine List.Perm.trans (List.Perm.of_eq (List.filter_congr fun x _ => ?_)) (filter_split (fun x : MB => decide (x.m.uid % (n : Int) < (k : Int))) (fun x : MB => decide (x.m.uid % (n : Int) = (k : Int))) X fun x _ h => ?_)
  · rw [Bool.eq_iff_iff]
    simp
    omega
  · simp at h
    omega

theorem withX_map (f : Int) (X : List MB) : withX f X = withL (X.map MB.m) f := by
  unfold withX withL
  rw [List.filter_map, List.map_map]
  rfl

theorem sort_perm {l l' : List Int} (h : l.Perm l') : (l.mergeSort fun x y => decide (x ≤ y)) = l'.mergeSort fun x y => decide (x ≤ y) := by
  have tr : ∀ a b c : Int, decide (a ≤ b) = true → decide (b ≤ c) = true → decide (a ≤ c) = true := fun a b c h1 h2 => by simp at *; omega
  have tt : ∀ a b : Int, (decide (a ≤ b) || decide (b ≤ a)) = true := fun a b => by simp; omega
  refine List.Perm.eq_of_pairwise (le := fun a b => decide (a ≤ b) = true) (fun a b _ _ h1 h2 => ?_) (List.pairwise_mergeSort tr tt l) (List.pairwise_mergeSort tr tt l') (((List.mergeSort_perm l _).trans h).trans (List.mergeSort_perm l' _).symm)
  simp at h1 h2
  omega

/-- What the loop over the stripes has collected. -/
structure WiR (w0 wr : World) (base : Nat) (T : Tb) (X : List MB) (f : Int) (k : Nat) (v : Value) (acc : List Int) : Prop where
  tbl : TBX base wr T X
  fb : Blk wr w0.heap.size 31 #[.int .u8 f]
  box : Blk wr (w0.heap.size + 1) 38 #[v]
  row : Own (intE .u32) 22 w0.heap.size wr v acc
  perm : acc.Perm (withX f (X.filter fun x : MB => decide (x.m.uid % (T.n : Int) < (k : Int))))
  fr : Fr T.foot w0 wr

theorem WiR.len {w0 wr base T X f k v acc} (h : WiR w0 wr base T X f k v acc) : acc.length ≤ X.length := by
  rw [h.perm.length_eq]
  exact Nat.le_trans (withX_len _ _) (List.length_filter_le _ _)

set_option maxRecDepth 100000 in
set_option maxHeartbeats 3200000 in
theorem twith_any {base : Nat} {w : World} {T : Tb} {X : List MB} (h : TBX base w T X) (hX : X.length ≤ 100000) (f : Int) (hf : 0 ≤ f ∧ f ≤ 255) :
    Calls Try.prog 15 #[.pointer (some ⟨T.tb, 0, none⟩), .int .u8 f] w fun e w' => ∃ o, e = .returned o ∧ Own (intE .u32) 22 w.heap.size w' o ((withL (X.map MB.m) f).mergeSort fun x y => decide (x ≤ y)) ∧ TBX base w' T X ∧ Fr T.foot w w' := by
  have hmf : ∀ (fn : Fn) (first cap : Array Value) (w : World), (Instr.makeFunc fn first cap).run Try.prog w = .ok (.func fn first cap) w := fun _ _ _ _ => rfl
  have hE := enters _ _ _ Try.func30 (by kernel_rfl) rfl
  have c0 : w.cell? ⟨T.tb, 0, none⟩ = some (.slice (some ⟨T.pb, 0, none⟩) T.n T.c) := h.hd.cell 0
  have htl := h.hd.lt
  have hn1 := h.n1
  have htop := h.top
  have H1 : Hid (WiR w ((w.alloc (.cells #[.int .u8 f] 31)).alloc (.cells #[.slice none 0 0] 38)) base T X f 0 (.slice none 0 0) []) :=
    ⟨h.new (((New.refl w).alloc _).alloc _), (Blk.new _ _ _).alloc _, Blk.new1 _ _ _ _, Own.nil _ _ _ _, by
      have : (X.filter fun x : MB => decide (x.m.uid % (T.n : Int) < ((0 : Nat) : Int))) = [] := by
        rw [List.filter_eq_nil_iff]
        intro x _
        have h0 := h.n0
        have := Int.emod_nonneg x.m.uid (b := (T.n : Int)) (by omega)
        simp
        omega
      rw [this]
      exact List.Perm.refl _, New.to (((New.refl w).alloc _).alloc _)⟩
  go_enter Try.func15, Try.ntmps15
  go_wp2
  go_loopw [15] (fun vi wr => ∃ (k : Nat) (v : Value) (acc : List Int), vi = .int .i64 k ∧ k ≤ T.n ∧ Hid (WiR w wr base T X f k v acc)) (fun vi _ => T.n - (intOf vi).toNat)
  case atStart => exact ⟨0, _, _, rfl, Nat.zero_le _, H1.out⟩
  case round =>
    obtain ⟨k, v, acc, rfl, hk, HR⟩ := hrel
    clear H1
    have hsz := HR.out.fr.size
    have hal := HR.out.len
    by_cases hlt : k < T.n
    · have hd : decide ((k : Int) < T.n) = true := decide_eq_true (by omega)
      have hnI : (k : Int) < (T.n : Int) := by omega
      have hkw : IntKind.i64.wrap ((k : Int) + 1) = (k : Int) + 1 := IntWalk.i64_in _ (by omega)
      have hp := HR.out.tbl.ptr hlt
      have hpt := HR.out.tbl.part k hlt
      have hmq : T.mb k ≠ T.q k := (HR.out.tbl.map k hlt).ne_blk hpt
      have hoq : w.heap.size + 1 ≠ T.q k := HR.out.box.ne_ hpt (by decide)
      have hfq : w.heap.size ≠ T.q k := HR.out.fb.ne_ hpt (by decide)
      have hrb := fun b hb => (HR.out.row.block (b := b) hb).1
      have hrh := fun b hb => HR.out.row.heap (g := b) hb
      have HD : Hid (Calls Try.prog 26 #[.pointer (some ⟨T.q k, 0, none⟩), .func (.func 30) #[] #[.pointer (some ⟨w.heap.size, 0, none⟩), .pointer (some ⟨w.heap.size + 1, 0, none⟩)]] wr fun e w' => e = .returned (.tuple #[]) ∧ ∃ v' acc', WiR w w' base T X f (k + 1) v' acc') := by
        refine (tdo2_any HR.out.tbl hlt 30 #[.pointer (some ⟨w.heap.size, 0, none⟩), .pointer (some ⟨w.heap.size + 1, 0, none⟩)] (fun k => k = w.heap.size + 1 ∨ v.ownBlock = some k) (fun b hb hft => ?_) (fun u l hu b hb hs => ?_)
          (fun w2 => ∃ v' dX, dX.Perm (X.filter fun x : MB => decide (x.m.uid % (T.n : Int) = (k : Int))) ∧ Blk w2 w.heap.size 31 #[.int .u8 f] ∧ Blk w2 (w.heap.size + 1) 38 #[v'] ∧ Own (intE .u32) 22 w.heap.size w2 v' (acc ++ withX f dX)) hE ?_).mono ?_
        · have h2 := hft.2
          rcases hb with rfl | hb
          · omega
          · have := hrb _ hb; omega
        · obtain ⟨cs, h9⟩ := hu.heap hb
          rcases hs with rfl | hs
          · exact h9.ne_ HR.out.box (by decide) rfl
          · obtain ⟨cs', h10⟩ := hrh _ hs
            exact h9.ne_ h10 (by decide) rfl
        · have hb1 := HR.out.box.far (p := ⟨T.q k, 0, none⟩) hoq (.int .i32 1)
          have hf1 := HR.out.fb.far (p := ⟨T.q k, 0, none⟩) hfq (.int .i32 1)
          have hr1 := HR.out.row.fr ((Fr.refl (fun k' => k' = T.q k) wr).setCell (p := ⟨T.q k, 0, none⟩) (fun _ => rfl) (.int .i32 1)) (fun b hb hs => by obtain ⟨cs, h9⟩ := hrh b hb; exact h9.ne_ hpt (by decide) hs)
          have hnd : ((X.filter fun x : MB => decide (x.m.uid % (T.n : Int) = (k : Int))).map fun x => x.m.uid).Nodup := h.nd.sublist (List.Sublist.map _ List.filter_sublist)
          have hfl : (X.filter fun x : MB => decide (x.m.uid % (T.n : Int) = (k : Int))).length ≤ X.length := List.length_filter_le _ _
          refine (with1_any (SX := X.filter fun x : MB => decide (x.m.uid % (T.n : Int) = (k : Int))) ((HR.out.tbl.map k hlt).setCell (a := ⟨T.q k, 0, none⟩) hmq _) hnd (fun x hx => by have := (h.ok x (List.mem_filter.1 hx).1).1.2; omega) hf1 hf hb1 hr1 (by simpa [World.setCell] using hsz) (by omega)).mono ?_
          rintro e w2 ⟨rfl, v', dX, h5, h6, h7, h8, h9⟩
          exact ⟨rfl, h9, v', dX, h5, h9.blk hf1 (fun hs => by rcases hs with hs | hs; (omega); have h10 := hrh _ hs; obtain ⟨cs, h10⟩ := h10; exact h10.ne_ HR.out.fb (by decide) rfl), h6, h7⟩
        · rintro e w' ⟨rfl, w2, rfl, ⟨v', dX, h5, h6, h7, h8⟩, h9, h10⟩
          refine ⟨rfl, v', acc ++ withX f dX, h9, h6.far (p := ⟨T.q k, 0, none⟩) hfq _, h7.far (p := ⟨T.q k, 0, none⟩) hoq _, ?_, ?_, Fr.trans' HR.out.fr h10 fun b hb hs => ?_⟩
          · refine h8.fr (S := fun b => b = T.q k) ((Fr.refl (fun b => b = T.q k) _).setCell (p := ⟨T.q k, 0, none⟩) (fun _ => rfl) _) fun b hb hs => ?_
            obtain ⟨cs, h11⟩ := h8.heap hb
            subst hs
            have h12 := h9.part k hlt
            unfold Blk at h12 h11
            simp [World.setCell, Array.getElem?_modify, h11] at h12
          · have h11 := withX_perm f (stripes_perm (n := T.n) (k := k) X)
            rw [withX_app] at h11
            exact (List.Perm.append HR.out.perm (withX_perm f h5)).trans h11.symm
          · rcases hs with rfl | rfl | hs
            · exact HR.out.tbl.rq k hlt
            · omega
            · have := hrb _ hs; omega
      have cwr : wr.cell? ⟨T.tb, 0, none⟩ = some (.slice (some ⟨T.pb, 0, none⟩) T.n T.c) := HR.out.tbl.hd.cell 0
      clear hrb hrh
      go_wp2_with fail
      refine HD.out.mono ?_
      rintro e w2 ⟨rfl, v', acc', h2⟩
      have H2 := Lib.hid h2
      clear h2
      go_wp2
      go_roundw
      case rel => exact ⟨k + 1, v', acc', by go_num, by omega, H2.out⟩
      case measure => simp [intOf]; omega
    · have hd : decide ((k : Int) < T.n) = false := decide_eq_false (by omega)
      have hc : wr.cell? ⟨w.heap.size + 1, 0, none⟩ = some v := HR.out.box.cell 0
      have hp2 : acc.Perm (withL (X.map MB.m) f) := by
        have h1 := HR.out.perm
        rw [← withX_map]
        have : (X.filter fun x : MB => decide (x.m.uid % (T.n : Int) < (k : Int))) = X := by
          rw [List.filter_eq_self]
          intro x _
          have h0 := h.n0
          have := Int.emod_lt_of_pos x.m.uid (b := (T.n : Int)) (by omega)
          simp
          omega
        rw [this] at h1
        exact h1
      have HP2 := Lib.hid hp2
      clear hp2
      go_wp2_with fail
      refine (usort_any HR.out.row (by omega)).mono ?_
      rintro e w2 ⟨rfl, hrow, hfr⟩
      rw [sort_perm HP2.out] at hrow
      have hb2 := hfr.blk HR.out.box (fun hs => by obtain ⟨cs, h10⟩ := HR.out.row.heap hs; exact h10.ne_ HR.out.box (by decide) rfl)
      have hc2 : w2.cell? ⟨w.heap.size + 1, 0, none⟩ = some v := hb2.cell 0
      have HROW := Lib.hid hrow
      have hrb := fun b hb => (HR.out.row.block (b := b) hb).1
      have HRB := Lib.hid hrb
      clear hrow hb2 hrb
      go_wp2
      go_ret
      refine ⟨_, rfl, HROW.out, HR.out.tbl.fr hfr (fun b hb hft => ?_) (fun u l hu b hb hs => ?_), Fr.trans' HR.out.fr hfr fun b hb hs => ?_⟩
      · have h1 := HRB.out b hb
        have h2 := hft.2
        omega
      · obtain ⟨cs, h9⟩ := hu.heap hb
        obtain ⟨cs', h10⟩ := HR.out.row.heap hs
        exact h9.ne_ h10 (by decide) rfl
      · have h1 := HRB.out b hs
        omega

end Go.Proofs.Ytjnaihhkbbeaoaa
