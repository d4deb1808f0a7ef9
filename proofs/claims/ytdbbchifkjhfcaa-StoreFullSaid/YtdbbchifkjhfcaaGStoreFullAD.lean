/- Part 4 of the proof of StoreFull: Put, Get, Rem, Flg, SortP, Sort1. -/
import Derived.Test.YtdbbchifkjhfcaaGStoreFullAC
import Derived.Sort.Defs
import Derived.Deep.Draws
import Derived.Test.YtdbbchifkjhfcaaRows
import Derived.WalkKit
import Derived.WalkSpells
import Derived.WalkLawsBesides
import Derived.Deep.QuietTactic
import Derived.BigQuiet
import Derived.BigGuard
import Derived.RegionTactic
import Derived.Lib.Hide

section
/- A table of messages in stripes: Put. -/
namespace Go.Proofs.Ytdbbchifkjhfcaa
open Go.RowKit Go.Maps

section
variable {base : Nat} {w w' : World} {T : Tb} {X X' : List MB}

theorem TBX.part_lt (h : TBX base w T X) {i : Nat} (hi : i < T.n) : T.q i < w.heap.size ∧ T.mb i < w.heap.size := ⟨(h.part i hi).lt, (h.map i hi).lt⟩

/-- One stripe has turned. -/
theorem TBX.turn {S : Nat → Prop} (h : TBX base w T X) {i : Nat} (hi : i < T.n) (hf : Fr S w w') (hS : ∀ k, S k → k = T.q i ∨ k = T.mb i ∨ ¬ T.foot k)
    (hp : Blk w' (T.q i) 68 #[.int .i32 0, .int .u32 0, .map (some (T.mb i))]) (hm : HasMap uKeys w' (T.mb i) (ent T.n i X')) (he : ∀ j, j ≠ i → j < T.n → ent T.n j X' = ent T.n j X)
    (hb : ∀ x ∈ X', Own (intE .u8) 5 base w' x.bv x.m.body) (nd : (X'.map fun x => x.m.uid).Nodup) (ok : ∀ x ∈ X', x.m.ok ∧ x.m.body.length ≤ 65536) : TBX base w' T X' := by
  obtain ⟨cs, hpt, hpi⟩ := h.pt
  have htq : T.tb ≠ T.q i := h.hd.ne_ (h.part i hi) (by decide)
  have htm : T.tb ≠ T.mb i := Ne.symm ((h.map i hi).ne_blk h.hd)
  have hpq : T.pb ≠ T.q i := hpt.ne_ (h.part i hi) (by decide)
  have hpm : T.pb ≠ T.mb i := Ne.symm ((h.map i hi).ne_blk hpt)
  have hno : ∀ k, T.foot k → k ≠ T.q i → k ≠ T.mb i → ¬ S k := fun k hk h1 h2 hs => by
    rcases hS k hs with h3 | h3 | h3
    · exact h1 h3
    · exact h2 h3
    · exact h3 hk
  refine ⟨hf.blk h.hd (hno _ h.rtb htq htm), h.n0, h.n1, h.nc, ⟨cs, hf.blk hpt (hno _ h.rpb hpq hpm), hpi⟩, fun j hj => ?_, fun j hj => ?_, hb, nd, ok, h.qinj, h.minj, h.rtb, h.rpb, h.rq, h.rm, Nat.le_trans h.top hf.size⟩
  · by_cases hji : j = i
    · subst hji; exact hp
    · exact hf.blk (h.part j hj) (hno _ (h.rq j hj) (fun e => hji (h.qinj _ _ hj hi e)) (Ne.symm ((h.map i hi).ne_blk (h.part j hj))))
  · by_cases hji : j = i
    · subst hji; exact hm
    · rw [he j hji hj]
      exact (h.map j hj).fr hf (hno _ (h.rm j hj) ((h.map j hj).ne_blk (h.part i hi)) (fun e => hji (h.minj _ _ hj hi e)))

theorem TBX.after (h : TBX base w T X) {i : Nat} (hi : i < T.n) (hf : Fr (fun k => k = T.q i ∨ k = T.mb i) w w')
    (hp : Blk w' (T.q i) 68 #[.int .i32 0, .int .u32 0, .map (some (T.mb i))]) (hm : HasMap uKeys w' (T.mb i) (ent T.n i X')) (he : ∀ j, j ≠ i → j < T.n → ent T.n j X' = ent T.n j X)
    (hb : ∀ x ∈ X', Own (intE .u8) 5 base w x.bv x.m.body ∨ Own (intE .u8) 5 base w' x.bv x.m.body) (nd : (X'.map fun x => x.m.uid).Nodup) (ok : ∀ x ∈ X', x.m.ok ∧ x.m.body.length ≤ 65536) : TBX base w' T X' ∧ Fr T.foot w w' := by
  refine ⟨h.turn hi hf (fun k hk => by rcases hk with hk | hk; exact .inl hk; exact .inr (.inl hk)) hp hm he (fun x hx => ?_) nd ok, fr_or hf fun k hk => by rcases hk with rfl | rfl; exact h.rq i hi; exact h.rm i hi⟩
  rcases hb x hx with h1 | h1
  · refine h1.fr hf fun b hb hs => ?_
    obtain ⟨cs, h2⟩ := h1.heap hb
    rcases hs with rfl | rfl
    · exact h2.ne_ (h.part i hi) (by decide) rfl
    · exact (h.map i hi).ne_blk h2 rfl
  · exact h1

/-- Where an identifier's stripe is. -/
theorem TBX.stripe (h : TBX base w T X) (k : Int) : ∃ i : Nat, k % (T.n : Int) = i ∧ i < T.n := by
  have h1 := h.n0
  have hm0 : 0 ≤ k % (T.n : Int) := Int.emod_nonneg _ (by omega)
  have hm1 : k % (T.n : Int) < T.n := Int.emod_lt_of_pos _ (by omega)
  exact ⟨(k % (T.n : Int)).toNat, by omega, by omega⟩
theorem TBX.ptr (h : TBX base w T X) {i : Nat} (hi : i < T.n) : w.cell? ⟨T.pb, i, none⟩ = some (.pointer (some ⟨T.q i, 0, none⟩)) := by
  obtain ⟨cs, hpt, hpi⟩ := h.pt
  rw [hpt.cell, hpi i hi]
theorem TBX.len (_ : TBX base w T X) (i : Nat) : (ent T.n i X).length ≤ X.length := by
  unfold ent
  rw [List.length_map]
  exact List.length_filter_le _ _
end

/-- A function is called with a stripe's messages, under its lock. -/
theorem tdo_any {base : Nat} {w wq : World} {T : Tb} {X : List MB} (h : TBX base w T X) (hn1 : New w wq) {i : Nat} (hi : i < T.n) (fn : Nat) (cap : Array Value) (Q : List MB → World → Prop)
    (hE : ∀ args w, (callFunc fn args).run Try.prog w = .ok (.enter fn args) w)
    (hf : Calls Try.prog fn (#[.map (some (T.mb i))] ++ cap) (wq.setCell ⟨T.q i, 0, none⟩ (.int .i32 1)) fun e w2 => e = .returned (.tuple #[]) ∧ ∃ X', HasMap uKeys w2 (T.mb i) (ent T.n i X') ∧
      Fr (fun k => k = T.mb i ∨ w.heap.size ≤ k) (wq.setCell ⟨T.q i, 0, none⟩ (.int .i32 1)) w2 ∧ (∀ x ∈ X', Own (intE .u8) 5 base w x.bv x.m.body ∨ Own (intE .u8) 5 base w2 x.bv x.m.body) ∧
      (∀ j, j ≠ i → j < T.n → ent T.n j X' = ent T.n j X) ∧ (X'.map fun x => x.m.uid).Nodup ∧ (∀ x ∈ X', x.m.ok ∧ x.m.body.length ≤ 65536) ∧ Q X' w2) :
    Calls Try.prog 41 #[.pointer (some ⟨T.q i, 0, none⟩), .func (.func fn) #[] cap] wq fun e w' => e = .returned (.tuple #[]) ∧ ∃ X' w2, w' = w2.setCell ⟨T.q i, 0, none⟩ (.int .i32 0) ∧ Q X' w2 ∧ TBX base w' T X' ∧ Fr T.foot w w' := by
  have hT := h.new hn1
  have hp := hT.part i hi
  have hql := (h.part_lt hi).1
  have hmq : T.mb i ≠ T.q i := (hT.map i hi).ne_blk hp
  refine (do_any (T.q i) (T.mb i) fn cap (fun w2 => Fr (fun k => k = T.mb i ∨ w.heap.size ≤ k) (wq.setCell ⟨T.q i, 0, none⟩ (.int .i32 1)) w2 ∧ ∃ X', HasMap uKeys w2 (T.mb i) (ent T.n i X') ∧
      (∀ x ∈ X', Own (intE .u8) 5 base w x.bv x.m.body ∨ Own (intE .u8) 5 base w2 x.bv x.m.body) ∧
      (∀ j, j ≠ i → j < T.n → ent T.n j X' = ent T.n j X) ∧ (X'.map fun x => x.m.uid).Nodup ∧ (∀ x ∈ X', x.m.ok ∧ x.m.body.length ≤ 65536) ∧ Q X' w2) wq hp hE (hf.mono ?_) ?_).mono ?_
  · rintro e w2 ⟨rfl, X', h1, h2, h3⟩
    exact ⟨rfl, h2, X', h1, h3⟩
  · rintro w2 ⟨h2, _⟩
    exact h2.blk (hp.set_ 0 _) (fun hs => by rcases hs with hs | hs; exact hmq hs.symm; omega)
  · rintro e w' ⟨rfl, w2, ⟨h2, X', h1, h3, h4, h5, h6, h7⟩, rfl⟩
    have hp2 : Blk w2 (T.q i) 68 #[.int .i32 1, .int .u32 0, .map (some (T.mb i))] := h2.blk (hp.set_ 0 _) (fun hs => by rcases hs with hs | hs; exact hmq hs.symm; omega)
    have hF : Fr (fun k => k = T.q i ∨ k = T.mb i ∨ w.heap.size ≤ k) wq (w2.setCell ⟨T.q i, 0, none⟩ (.int .i32 0)) :=
      Fr.setCell (Fr.trans (((Fr.refl _ _)).setCell (fun _ => .inl rfl) _) (fr_or h2 fun _ h => .inr h)) (fun _ => .inl rfl) _
    have hFw : Fr (fun k => k = T.q i ∨ k = T.mb i) w (w2.setCell ⟨T.q i, 0, none⟩ (.int .i32 0)) := Fr.trans' (New.to hn1) hF fun k hk hs => by
      rcases hs with hs | hs | hs
      · exact .inl hs
      · exact .inr hs
      · omega
    have hd := h.after hi hFw (hp2.set_ 0 _) (h1.setCell (a := ⟨T.q i, 0, none⟩) hmq _) h4 (fun x hx => by
      rcases h3 x hx with h8 | h8
      · exact .inl h8
      · refine .inr (h8.fr (S := fun k => k = T.q i) ((Fr.refl (fun k => k = T.q i) _).setCell (p := ⟨T.q i, 0, none⟩) (fun _ => rfl) _) fun b hb hs => ?_)
        subst hs
        obtain ⟨cs, h9⟩ := h8.heap hb
        exact hp2.ne_ h9 (by decide) rfl) h5 h6
    exact ⟨rfl, X', w2, rfl, h7, hd.1, hd.2⟩

theorem MB.len_eq {w : World} {x : MB} (h : Rd (intE .u8) w x.bv x.m.body) : x.n = x.m.body.length := by
  obtain ⟨A', c', he, _⟩ := h
  injection he
theorem putC_ok {M : List Msg} {m : Msg} (h0 : m.uid ≠ 0) (h1 : m.fl ≤ 31) (h2 : m.body.length ≤ 65536) : putC M m = if (findM M m.uid).isSome then 8 else 0 := by
  unfold putC
  rw [if_neg]
  rintro (h | h | h)
  · exact h0 h
  · omega
  · omega

set_option maxHeartbeats 800000 in
theorem tput_nil (x : MB) (w : World) : Calls Try.prog 27 #[.pointer none, x.val] w fun e w' => e = .returned (.int .i64 1) ∧ New w w' := by
  obtain ⟨⟨uid, fl, body⟩, A, n, c⟩ := x
  simp only [MB.val]
  go_enter Try.func27, Try.ntmps27
  go_wp2
  go_ret
  exact ⟨rfl, (New.refl w).alloc _⟩

set_option maxHeartbeats 1600000 in
theorem tput_range (b : Nat) (x : MB) (w : World) (hb : Rd (intE .u8) w x.bv x.m.body) (hc : x.m.uid = 0 ∨ 31 < x.m.fl ∨ 65536 < x.m.body.length) :
    Calls Try.prog 27 #[.pointer (some ⟨b, 0, none⟩), x.val] w fun e w' => e = .returned (.int .i64 2) ∧ New w w' := by
  obtain ⟨⟨uid, fl, body⟩, A, n, c⟩ := x
  have e2 : n = body.length := MB.len_eq hb
  subst e2
  simp only [MB.val] at hc ⊢
  by_cases h0 : uid = 0
  · have d0 : (uid == 0) = true := by simp [h0]
    clear hc h0
    go_enter Try.func27, Try.ntmps27
    go_wp2
    go_ret
    exact ⟨rfl, (New.refl w).alloc _⟩
  · have d0 : (uid == 0) = false := by simp [h0]
    by_cases h1 : 31 < fl
    · have d1 : decide (31 < fl) = true := decide_eq_true h1
      clear hc h0 h1
      go_enter Try.func27, Try.ntmps27
      go_wp2
      go_ret
      exact ⟨rfl, (New.refl w).alloc _⟩
    · have d1 : decide (31 < fl) = false := decide_eq_false h1
      have d2 : decide ((65536 : Int) < body.length) = true := decide_eq_true (by omega)
      clear hc h0 h1
      go_enter Try.func27, Try.ntmps27
      go_wp2
      go_ret
      exact ⟨rfl, (New.refl w).alloc _⟩

set_option maxRecDepth 100000 in
set_option maxHeartbeats 6400000 in
theorem tput_has {base : Nat} {w : World} {T : Tb} {X : List MB} (h : TBX base w T X) (x y : MB) (hx : x.m.wf) (hb : Rd (intE .u8) w x.bv x.m.body)
    (h0 : x.m.uid ≠ 0) (h1 : x.m.fl ≤ 31) (h2 : x.m.body.length ≤ 65536) (hy : findX X x.m.uid = some y) :
    Calls Try.prog 27 #[.pointer (some ⟨T.tb, 0, none⟩), x.val] w fun e w' => e = .returned (.int .i64 8) ∧ (TBX base w' T X ∧ Fr T.foot w w') := by
  obtain ⟨i, hi, hin⟩ := h.stripe x.m.uid
  have hget := get_ent T.n hi X
  rw [hy] at hget
  obtain ⟨⟨uid, fl, body⟩, A, n, c⟩ := x
  have e2 : n = body.length := MB.len_eq hb
  subst e2
  have HB := Lib.hid hb
  simp only [MB.val, Msg.wf] at hx h0 h1 h2 hget hi ⊢
  have d0 : (uid == 0) = false := by simp [h0]
  have d1 : decide (31 < fl) = false := decide_eq_false (by omega)
  have d2 : decide ((65536 : Int) < body.length) = false := decide_eq_false (by omega)
  have hmf : ∀ (fn : Fn) (first cap : Array Value) (w : World), (Instr.makeFunc fn first cap).run Try.prog w = .ok (.func fn first cap) w := fun _ _ _ _ => rfl
  have hE := enters _ _ _ Try.func42 (by kernel_rfl) rfl
  obtain ⟨wq, hwq⟩ : ∃ wq, wq = (w.alloc (.cells #[.int .u32 uid, .int .u8 fl, .slice A body.length c] 95)).alloc (.cells #[.int .i64 0] 25) := ⟨_, rfl⟩
  have hn1 : New w wq := by rw [hwq]; exact ((New.refl w).alloc _).alloc _
  have hqs : wq.heap.size = w.heap.size + 2 := by rw [hwq]; simp
  have bg : Blk wq w.heap.size 95 #[.int .u32 uid, .int .u8 fl, .slice A body.length c] := by rw [hwq]; exact (Blk.new _ _ _).alloc _
  have be : Blk wq (w.heap.size + 1) 25 #[.int .i64 0] := by rw [hwq]; exact Blk.new1 _ _ _ _
  have hT := h.new hn1
  have c0 : wq.cell? ⟨T.tb, 0, none⟩ = some (.slice (some ⟨T.pb, 0, none⟩) T.n T.c) := hT.hd.cell 0
  have cg : wq.cell? ⟨w.heap.size, 0, none⟩ = some (.int .u32 uid) := bg.cell 0
  have cp := hT.ptr hin
  have hiI : (0 : Int) ≤ (i : Int) := by omega
  have hnI : (i : Int) < (T.n : Int) := by omega
  have hql := hT.part_lt hin
  have hwl := h.part_lt hin
  have HWQ := Lib.hid hwq
  go_enter Try.func27, Try.ntmps27
  go_wp2_with fail
  rw [← HWQ.out]
  clear HWQ hwq
  have hmq : T.mb i ≠ T.q i := (hT.map i hin).ne_blk (hT.part i hin)
  have hgq : w.heap.size ≠ T.q i := bg.ne_ (hT.part i hin) (by decide)
  have heq : w.heap.size + 1 ≠ T.q i := be.ne_ (hT.part i hin) (by decide)
  have hok : uKeys.ok uid := okU hx.1.1 hx.1.2
  have HD : Hid (Calls Try.prog 41 #[.pointer (some ⟨T.q i, 0, none⟩), .func (.func 42) #[] #[.pointer (some ⟨w.heap.size, 0, none⟩), .pointer (some ⟨w.heap.size + 1, 0, none⟩)]] wq.drew fun e w' => e = .returned (.tuple #[]) ∧ (TBX base w' T X ∧ Fr T.foot w w') ∧
      Blk w' w.heap.size 95 #[.int .u32 uid, .int .u8 fl, .slice A body.length c] ∧ Blk w' (w.heap.size + 1) 25 #[.int .i64 8]) := by
    refine (tdo_any h (hn1.drew) hin 42 #[.pointer (some ⟨w.heap.size, 0, none⟩), .pointer (some ⟨w.heap.size + 1, 0, none⟩)] (fun X' w2 => X' = X ∧ Blk w2 w.heap.size 95 #[.int .u32 uid, .int .u8 fl, .slice A body.length c] ∧ Blk w2 (w.heap.size + 1) 25 #[.int .i64 8]) hE ?_).mono ?_
    · refine (put1_has (w := wq.drew.setCell ⟨T.q i, 0, none⟩ (.int .i32 1)) (x := ⟨⟨uid, fl, body⟩, A, body.length, c⟩) (y := y) ((hT.map i hin).drew.setCell (a := ⟨T.q i, 0, none⟩) hmq _) hok (bg.drew.far (p := ⟨T.q i, 0, none⟩) hgq _) (be.drew.far (p := ⟨T.q i, 0, none⟩) heq _) hget).mono ?_
      rintro e w2 ⟨rfl, h5, h6⟩
      exact ⟨rfl, X, ((hT.map i hin).drew.setCell (a := ⟨T.q i, 0, none⟩) hmq _).fr h6 (by omega), fr_or h6 fun _ h => .inr (by omega), fun x hx => .inl (h.body x hx), fun _ _ _ => rfl, h.nd, h.ok, rfl, h6.blk (bg.drew.far (p := ⟨T.q i, 0, none⟩) hgq _) (by omega), h5⟩
    · rintro e w' ⟨rfl, X', w2, rfl, ⟨rfl, h5, h6⟩, h7, h8⟩
      exact ⟨rfl, ⟨h7, h8⟩, h5.far (p := ⟨T.q i, 0, none⟩) hgq _, h6.far (p := ⟨T.q i, 0, none⟩) heq _⟩
  go_region_held3 (fun w' => w'.cell? ⟨T.tb, 0, none⟩ = some (.slice (some ⟨T.pb, 0, none⟩) T.n T.c) ∧ w'.cell? ⟨w.heap.size, 0, none⟩ = some (.int .u32 uid) ∧ w'.cell? ⟨T.pb, i, none⟩ = some (.pointer (some ⟨T.q i, 0, none⟩))) (first | go_keep | (refine ⟨?_, ?_, ?_⟩ <;> assumption))
    ((first
      | (go_at_call 40
         refine (tof_any (hT.new (by repeat' first | exact New.refl _ | apply Fr.drewN | apply Fr.drew)) uid (by omega) (by omega)).mono ?_
         rw [hi]
         rintro e w3 ⟨rfl, rfl⟩)
      | (go_at_call 41
         refine HD.out.mono ?_
         rintro e w4 ⟨rfl, hTn, h5, h6⟩
         have k0 : w4.cell? ⟨T.tb, 0, none⟩ = some (.slice (some ⟨T.pb, 0, none⟩) T.n T.c) := hTn.1.hd.cell 0
         have k1 : w4.cell? ⟨w.heap.size, 0, none⟩ = some (.int .u32 uid) := h5.cell 0
         have k2 : w4.cell? ⟨T.pb, i, none⟩ = some (.pointer (some ⟨T.q i, 0, none⟩)) := hTn.1.ptr hin
         have k3 : w4.cell? ⟨w.heap.size + 1, 0, none⟩ = some (.int .i64 8) := h6.cell 0)
      | fail))
  all_goals
    go_wp2
    go_ret
    exact ⟨rfl, hTn⟩

set_option maxRecDepth 100000 in
set_option maxHeartbeats 6400000 in
theorem tput_new {base : Nat} {w : World} {T : Tb} {X : List MB} (h : TBX base w T X) (hbs : base ≤ w.heap.size) (hX : X.length ≤ 100000) (x : MB) (hx : x.m.wf) (hb : Rd (intE .u8) w x.bv x.m.body)
    (h0 : x.m.uid ≠ 0) (h1 : x.m.fl ≤ 31) (h2 : x.m.body.length ≤ 65536) (hy : findX X x.m.uid = none) :
    Calls Try.prog 27 #[.pointer (some ⟨T.tb, 0, none⟩), x.val] w fun e w' => e = .returned (.int .i64 0) ∧ ∃ y : MB, y.m = x.m ∧ (TBX base w' T (X ++ [y]) ∧ Fr T.foot w w') := by
  obtain ⟨i, hi, hin⟩ := h.stripe x.m.uid
  have hget := get_ent T.n hi X
  rw [hy] at hget
  obtain ⟨⟨uid, fl, body⟩, A, n, c⟩ := x
  have e2 : n = body.length := MB.len_eq hb
  subst e2
  have HB := Lib.hid hb
  simp only [MB.val, Msg.wf] at hx h0 h1 h2 hget hi ⊢
  have d0 : (uid == 0) = false := by simp [h0]
  have d1 : decide (31 < fl) = false := decide_eq_false (by omega)
  have d2 : decide ((65536 : Int) < body.length) = false := decide_eq_false (by omega)
  have hmf : ∀ (fn : Fn) (first cap : Array Value) (w : World), (Instr.makeFunc fn first cap).run Try.prog w = .ok (.func fn first cap) w := fun _ _ _ _ => rfl
  have hE := enters _ _ _ Try.func42 (by kernel_rfl) rfl
  obtain ⟨wq, hwq⟩ : ∃ wq, wq = (w.alloc (.cells #[.int .u32 uid, .int .u8 fl, .slice A body.length c] 95)).alloc (.cells #[.int .i64 0] 25) := ⟨_, rfl⟩
  have hn1 : New w wq := by rw [hwq]; exact ((New.refl w).alloc _).alloc _
  have hqs : wq.heap.size = w.heap.size + 2 := by rw [hwq]; simp
  have bg : Blk wq w.heap.size 95 #[.int .u32 uid, .int .u8 fl, .slice A body.length c] := by rw [hwq]; exact (Blk.new _ _ _).alloc _
  have be : Blk wq (w.heap.size + 1) 25 #[.int .i64 0] := by rw [hwq]; exact Blk.new1 _ _ _ _
  have hT := h.new hn1
  have c0 : wq.cell? ⟨T.tb, 0, none⟩ = some (.slice (some ⟨T.pb, 0, none⟩) T.n T.c) := hT.hd.cell 0
  have cg : wq.cell? ⟨w.heap.size, 0, none⟩ = some (.int .u32 uid) := bg.cell 0
  have cp := hT.ptr hin
  have hiI : (0 : Int) ≤ (i : Int) := by omega
  have hnI : (i : Int) < (T.n : Int) := by omega
  have hql := hT.part_lt hin
  have hwl := h.part_lt hin
  have HWQ := Lib.hid hwq
  go_enter Try.func27, Try.ntmps27
  go_wp2_with fail
  rw [← HWQ.out]
  clear HWQ hwq
  have hmq : T.mb i ≠ T.q i := (hT.map i hin).ne_blk (hT.part i hin)
  have hgq : w.heap.size ≠ T.q i := bg.ne_ (hT.part i hin) (by decide)
  have heq : w.heap.size + 1 ≠ T.q i := be.ne_ (hT.part i hin) (by decide)
  have hok : uKeys.ok uid := okU hx.1.1 hx.1.2
  have hx0 := hx
  have hnd : ∀ y : MB, y.m = ⟨uid, fl, body⟩ → ((X ++ [y]).map fun x => x.m.uid).Nodup := fun y hym => by
    rw [List.map_append, List.nodup_append]
    refine ⟨h.nd, by simp, fun a ha b hb => ?_⟩
    obtain ⟨z, hz, rfl⟩ := List.mem_map.1 ha
    simp at hb
    rw [hb, hym]
    intro he
    have := List.find?_eq_none.1 hy z hz
    simp at this
    exact this he
  have hlen := h.len i
  have hga : get (ent T.n i X) uid = none := hget
  have HD : Hid (Calls Try.prog 41 #[.pointer (some ⟨T.q i, 0, none⟩), .func (.func 42) #[] #[.pointer (some ⟨w.heap.size, 0, none⟩), .pointer (some ⟨w.heap.size + 1, 0, none⟩)]] wq.drew fun e w' => e = .returned (.tuple #[]) ∧ (∃ y : MB, y.m = ⟨uid, fl, body⟩ ∧ TBX base w' T (X ++ [y]) ∧ Fr T.foot w w') ∧
      Blk w' w.heap.size 95 #[.int .u32 uid, .int .u8 fl, .slice A body.length c] ∧ Blk w' (w.heap.size + 1) 25 #[.int .i64 0]) := by
    refine (tdo_any h (hn1.drew) hin 42 #[.pointer (some ⟨w.heap.size, 0, none⟩), .pointer (some ⟨w.heap.size + 1, 0, none⟩)] (fun X' w2 => (∃ y : MB, y.m = ⟨uid, fl, body⟩ ∧ X' = X ++ [y]) ∧ Blk w2 w.heap.size 95 #[.int .u32 uid, .int .u8 fl, .slice A body.length c] ∧ Blk w2 (w.heap.size + 1) 25 #[.int .i64 0]) hE ?_).mono ?_
    · have hbq : Rd (intE .u8) (wq.drew.setCell ⟨T.q i, 0, none⟩ (.int .i32 1)) (.slice A body.length c) body := by
        have h9 : Rd (intE .u8) wq.drew (.slice A body.length c) body := HB.out.new hn1.drew
        obtain ⟨A', c', he, hc', hcell⟩ := h9
        cases he
        refine ⟨A, c, rfl, hc', fun hne => ?_⟩
        obtain ⟨b, off, rfl, hc⟩ := hcell hne
        refine ⟨b, off, rfl, fun i' x hx j u hu => ?_⟩
        have h10 := hc i' x hx j u hu
        rw [World.cell?_setCell_other _ _ _ _ (fun e => ?_)]
        · exact h10
        · have e1 : T.q i = b := congrArg Addr.block e
          have e2 : (0 : Nat) = off + (i' * (intE .u8).sz + j) := congrArg Addr.off e
          have h11 := (hT.part i hin).drew.cell 0
          rw [← e1, ← e2, h11] at h10
          simp at h10
          have hj : j = 0 := by have := (List.getElem?_eq_some_iff.1 hu).1; simp [intE] at this; exact this
          subst hj
          simp [intE] at hu
          rw [← hu] at h10
          cases h10
      refine (put1_new (w := wq.drew.setCell ⟨T.q i, 0, none⟩ (.int .i32 1)) (x := ⟨⟨uid, fl, body⟩, A, body.length, c⟩) ((hT.map i hin).drew.setCell (a := ⟨T.q i, 0, none⟩) hmq _) hok (by unfold maxLen; omega) (bg.drew.far (p := ⟨T.q i, 0, none⟩) hgq _) (be.drew.far (p := ⟨T.q i, 0, none⟩) heq _) hbq (by show body.length ≤ 100000; omega) hga).mono ?_
      rintro e w2 ⟨rfl, y, hym, h5, h6, h7⟩
      have hsz : (wq.drew.setCell ⟨T.q i, 0, none⟩ (.int .i32 1)).heap.size = w.heap.size + 2 := by simp [World.setCell]; exact hqs
      refine ⟨rfl, X ++ [y], ?_, fr_or h7 fun _ h => .inl h, fun x hx => ?_, fun j hj hjn => ?_, hnd y hym, fun x hx => ?_, ⟨y, hym, rfl⟩, h7.blk (bg.drew.far (p := ⟨T.q i, 0, none⟩) hgq _) (by omega), h7.blk (be.drew.far (p := ⟨T.q i, 0, none⟩) heq _) (by omega)⟩
      · rw [ent_app, hym, if_pos hi]
        exact h5.perm (put_new_perm hga)
      · rcases List.mem_append.1 hx with hx | hx
        · exact .inl (h.body x hx)
        · simp at hx
          subst hx
          exact .inr (h6.mono (by rw [hsz]; omega))
      · rw [ent_app, hym, if_neg]
        simp only
        rw [hi]
        omega
      · rcases List.mem_append.1 hx with hx | hx
        · exact h.ok x hx
        · simp at hx
          subst hx
          rw [hym]
          exact ⟨⟨⟨by show 1 ≤ uid; omega, hx0.1.2⟩, ⟨hx0.2.1, h1⟩⟩, h2⟩
    · rintro e w' ⟨rfl, X', w2, rfl, ⟨⟨y, hym, rfl⟩, h5, h6⟩, h7, h8⟩
      exact ⟨rfl, ⟨y, hym, h7, h8⟩, h5.far (p := ⟨T.q i, 0, none⟩) hgq _, h6.far (p := ⟨T.q i, 0, none⟩) heq _⟩
  go_region_held3 (fun w' => w'.cell? ⟨T.tb, 0, none⟩ = some (.slice (some ⟨T.pb, 0, none⟩) T.n T.c) ∧ w'.cell? ⟨w.heap.size, 0, none⟩ = some (.int .u32 uid) ∧ w'.cell? ⟨T.pb, i, none⟩ = some (.pointer (some ⟨T.q i, 0, none⟩))) (first | go_keep | (refine ⟨?_, ?_, ?_⟩ <;> assumption))
    ((first
      | (go_at_call 40
         refine (tof_any (hT.new (by repeat' first | exact New.refl _ | apply Fr.drewN | apply Fr.drew)) uid (by omega) (by omega)).mono ?_
         rw [hi]
         rintro e w3 ⟨rfl, rfl⟩)
      | (go_at_call 41
         refine HD.out.mono ?_
         rintro e w4 ⟨rfl, ⟨y, hym, hTn⟩, h5, h6⟩
         have k0 : w4.cell? ⟨T.tb, 0, none⟩ = some (.slice (some ⟨T.pb, 0, none⟩) T.n T.c) := hTn.1.hd.cell 0
         have k1 : w4.cell? ⟨w.heap.size, 0, none⟩ = some (.int .u32 uid) := h5.cell 0
         have k2 : w4.cell? ⟨T.pb, i, none⟩ = some (.pointer (some ⟨T.q i, 0, none⟩)) := hTn.1.ptr hin
         have k3 : w4.cell? ⟨w.heap.size + 1, 0, none⟩ = some (.int .i64 0) := h6.cell 0)
      | fail))
  all_goals
    go_wp2
    go_ret
    exact ⟨rfl, y, hym, hTn⟩

theorem findX_isSome {X : List MB} {k : Int} : (findX X k).isSome = (findM (X.map MB.m) k).isSome := by
  rw [findX_map]; cases findX X k <;> rfl

/-- Put: the code, the messages. -/
theorem tput_any {base : Nat} {w : World} {T : Tb} {X : List MB} (h : TBX base w T X) (hbs : base ≤ w.heap.size) (hX : X.length ≤ 100000) (x : MB) (hx : x.m.wf) (hb : Rd (intE .u8) w x.bv x.m.body) :
    Calls Try.prog 27 #[.pointer (some ⟨T.tb, 0, none⟩), x.val] w fun e w' => e = .returned (.int .i64 (putC (X.map MB.m) x.m)) ∧ ∃ X', X'.map MB.m = putM (X.map MB.m) x.m ∧ X'.length ≤ X.length + 1 ∧ TBX base w' T X' ∧ Fr T.foot w w' := by
  by_cases hc : x.m.uid = 0 ∨ 31 < x.m.fl ∨ 65536 < x.m.body.length
  · have hp : putC (X.map MB.m) x.m = 2 := if_pos hc
    refine (tput_range T.tb x w hb hc).mono ?_
    rintro e w' ⟨rfl, hn⟩
    exact ⟨by rw [hp], X, by unfold putM; rw [hp]; rfl, by omega, h.new hn, New.to hn⟩
  · have h0 : x.m.uid ≠ 0 := fun e => hc (.inl e)
    have h1 : x.m.fl ≤ 31 := by rcases Int.lt_or_le 31 x.m.fl with h | h; exact absurd (.inr (.inl h)) hc; exact h
    have h2 : x.m.body.length ≤ 65536 := by rcases Nat.lt_or_ge 65536 x.m.body.length with h | h; exact absurd (.inr (.inr h)) hc; exact h
    have hp := putC_ok (M := X.map MB.m) h0 h1 h2
    rw [← findX_isSome] at hp
    cases hy : findX X x.m.uid with
    | some y =>
      rw [hy] at hp
      have hp : putC (X.map MB.m) x.m = 8 := hp
      refine (tput_has h x y hx hb h0 h1 h2 hy).mono ?_
      rintro e w' ⟨rfl, hn⟩
      exact ⟨by rw [hp], X, by unfold putM; rw [hp]; rfl, by omega, hn⟩
    | none =>
      rw [hy] at hp
      have hp : putC (X.map MB.m) x.m = 0 := hp
      refine (tput_new h hbs hX x hx hb h0 h1 h2 hy).mono ?_
      rintro e w' ⟨rfl, y, hym, hn⟩
      exact ⟨by rw [hp], X ++ [y], by unfold putM; rw [hp, if_pos rfl, List.map_append, List.map_singleton, hym], by simp, hn⟩

end Go.Proofs.Ytdbbchifkjhfcaa
end

section
/- A table of messages in stripes: Get. -/
namespace Go.Proofs.Ytdbbchifkjhfcaa
open Go.RowKit Go.Maps

theorem loadMsg {w : World} {g : Nat} {a b c : Value} (h : Blk w g 95 #[a, b, c]) : (loadVar 95 ⟨g, 0, none⟩).run Try.prog w = .ok (.agg #[a, b, c]) w :=
  run_loadVar_row w g _ _ _ _ _ h Try.underlying95 rfl (by kernel_rfl)
theorem loadBool {w : World} {g : Nat} {a : Value} (h : Blk w g 4 #[a]) : (loadVar 4 ⟨g, 0, none⟩).run Try.prog w = .ok a w :=
  run_loadVar_one Try.underlying4 rfl (h.cell 0)

/-- The body of what is found. -/
theorem TBX.found {base : Nat} {w : World} {T : Tb} {X : List MB} (h : TBX base w T X) (k : Int) : Rd (intE .u8) w ((findX X k).getD mb0).bv ((findX X k).getD mb0).m.body ∧ ((findX X k).getD mb0).m.body.length ≤ 65536 ∧ 0 ≤ ((findX X k).getD mb0).m.fl ∧ ((findX X k).getD mb0).m.fl ≤ 31 := by
  cases hf : findX X k with
  | none => exact ⟨Rd.nil (intE .u8) w, by simp [mb0, msg0], by simp [mb0, msg0], by simp [mb0, msg0]⟩
  | some x =>
    have hx := (findX_mem hf).1
    have := h.ok x hx
    exact ⟨(h.body x hx).rd, this.2, this.1.2.1, this.1.2.2⟩

end Go.Proofs.Ytdbbchifkjhfcaa
end

section
/- A table of messages in stripes: Remove. -/
namespace Go.Proofs.Ytdbbchifkjhfcaa
open Go.RowKit Go.Maps
end Go.Proofs.Ytdbbchifkjhfcaa
end

section
/- A table of messages in stripes: Flags. -/
namespace Go.Proofs.Ytdbbchifkjhfcaa
open Go.RowKit Go.Maps

theorem Blk.new3 (w : World) (o o' o'' : Obj) (t : TypeId) (cs : Array Value) : Blk ((((w.alloc o).alloc o').alloc o'').alloc (.cells cs t)) (w.heap.size + 3) t cs := by
  have h := Blk.new2 (w.alloc o) o' o'' t cs
  rwa [World.size_alloc] at h
theorem Blk.new4 (w : World) (o o' o'' o3 : Obj) (t : TypeId) (cs : Array Value) : Blk (((((w.alloc o).alloc o').alloc o'').alloc o3).alloc (.cells cs t)) (w.heap.size + 4) t cs := by
  have h := Blk.new3 (w.alloc o) o' o'' o3 t cs
  rwa [World.size_alloc] at h
theorem loadFlags {w : World} {g : Nat} {a : Value} (h : Blk w g 28 #[a]) : (loadVar 28 ⟨g, 0, none⟩).run Try.prog w = .ok a w :=
  run_loadVar_one Try.underlying28 rfl (h.cell 0)
theorem loadCode {w : World} {g : Nat} {a : Value} (h : Blk w g 25 #[a]) : (loadVar 25 ⟨g, 0, none⟩).run Try.prog w = .ok a w :=
  run_loadVar_one Try.underlying25 rfl (h.cell 0)

/-- The world behind Flags' boxes. -/
abbrev flW (w : World) (k mode f e : Int) : World := ((((w.alloc (.cells #[.int .u32 k] 22)).alloc (.cells #[.int .i64 mode] 3)).alloc (.cells #[.int .u8 f] 28)).alloc (.cells #[.int .u8 0] 28)).alloc (.cells #[.int .i64 e] 25)

end Go.Proofs.Ytdbbchifkjhfcaa
end

section
/- The steps of the plain sorting functions, and a row as an array. Plain lemmas; of no program. -/
namespace Go.Proofs.Ytdbbchifkjhfcaa
open Go.RowKit Go.Sort

/-- The slice with head at block g is a row of the call's own that holds the array. -/
def SRow (te : TypeId) (base : Nat) (w : World) (g c : Nat) (d : Array Int) : Prop := Own (intE .u32) te base w (.slice (some ⟨g, 0, none⟩) d.size c) d.toList

section
variable {te : TypeId} {base g c : Nat} {w w' : World} {d : Array Int}
theorem SRow.cell (h : SRow te base w g c d) {t : Nat} (ht : t < d.size) : w.cell? ⟨g, t, none⟩ = some (.int .u32 d[t]!) := by
  refine Own.icell h ?_
  rw [Array.getElem?_toList, Array.getElem?_eq_getElem ht, getElem!_pos d t ht]
theorem SRow.frozen (h : SRow te base w g c d) (t : Nat) : w.frozen? ⟨g, t, none⟩ = false := Own.ifrozen h t
theorem SRow.fr {S : Nat → Prop} (h : SRow te base w g c d) (hf : Fr S w w') (hS : ¬ S g) : SRow te base w' g c d := Own.fr h hf fun b hb => by cases hb; exact hS
theorem SRow.drewN (h : SRow te base w g c d) (n : Nat) : SRow te base (w.drewN n) g c d := h
theorem SRow.new (h : SRow te base w g c d) (hf : New w w') : SRow te base w' g c d := h.fr hf id
theorem SRow.base_le (h : SRow te base w g c d) : base ≤ g := (Own.block h rfl).1
theorem SRow.lt (h : SRow te base w g c d) : g < w.heap.size := (Own.block h rfl).2
theorem SRow.swap (h : SRow te base w g c d) (i j : Nat) :
    SRow te base ((w.setCell ⟨g, i, none⟩ (.int .u32 d[j]!)).setCell ⟨g, j, none⟩ (.int .u32 d[i]!)) g c (swp d i j) := by
  have h1 := (Own.istored (Own.istored h i d[j]!) j d[i]!)
  unfold SRow swp
  have : ((d.setIfInBounds i d[j]!).setIfInBounds j d[i]!).toList = (d.toList.set i d[j]!).set j d[i]! := by simp
  rw [this]
  simpa using h1
end
theorem SRow.one {te : TypeId} {base g c : Nat} {w : World} {d : Array Int} (h : SRow te base w g c d) (i : Nat) (v : Int) : SRow te base (w.setCell ⟨g, i, none⟩ (.int .u32 v)) g c (d.setIfInBounds i v) := by
  have h1 := Own.istored h i v
  unfold SRow
  rw [Array.toList_setIfInBounds, Array.size_setIfInBounds]
  exact h1
/-- A swap from a world that has not yet drawn. -/
theorem SRow.two0 {te : TypeId} {base g c : Nat} {w : World} {d : Array Int} (h : SRow te base w g c d) (i j : Nat) : SRow te base ((w.setCell ⟨g, i, none⟩ (.int .u32 d[j]!)).setCell ⟨g, j, none⟩ (.int .u32 d[i]!)).drew g c (swp d i j) := h.swap i j
theorem One.two0 {g : Nat} {a w : World} (h : One g a w) (i j : Nat) (u v : Value) : One g a ((w.setCell ⟨g, i, none⟩ u).setCell ⟨g, j, none⟩ v).drew := Fr.drew (One.set (One.set h i u) j v)
/-- What a second store to the row needs. -/
theorem SRow.again {te : TypeId} {base g c : Nat} {w : World} {d : Array Int} (h : SRow te base w g c d) (i j : Nat) (v : Int) (hj : j < d.size) : ∃ z, (w.setCell ⟨g, i, none⟩ (.int .u32 v)).cell? ⟨g, j, none⟩ = some z :=
  ⟨_, (h.one i v).cell (by rw [Array.size_setIfInBounds]; exact hj)⟩
theorem One.two {g : Nat} {a w : World} (h : One g a w) (n i j : Nat) (u v : Value) : One g a (((w.drewN n).setCell ⟨g, i, none⟩ u).setCell ⟨g, j, none⟩ v) := One.set (One.set (Fr.drewN h n) i u) j v
theorem SRow.two {te : TypeId} {base g c : Nat} {w : World} {d : Array Int} (h : SRow te base w g c d) (n i j : Nat) : SRow te base (((w.drewN n).setCell ⟨g, i, none⟩ (.int .u32 d[j]!)).setCell ⟨g, j, none⟩ (.int .u32 d[i]!)) g c (swp d i j) := by
  have h1 := (h.drewN n).swap i j
  exact h1
theorem swp_size (d : Array Int) (i j : Nat) : (swp d i j).size = d.size := by simp [swp]

section
variable {lt : Int → Int → Bool}
theorem insInner_go' (a j : Nat) (d : Array Int) (hj : a < j) (hl : lt d[j]! d[j - 1]! = true) : insInner lt a j d = insInner lt a (j - 1) (swp d j (j - 1)) := by
  obtain ⟨k, rfl⟩ : ∃ k, j = k + 1 := ⟨j - 1, by omega⟩
  conv => lhs; unfold insInner
  simp only [Nat.add_sub_cancel] at hl ⊢
  rw [hl, decide_eq_true (by omega : k + 1 > a)]
  rfl
theorem insInner_stop' (a j : Nat) (d : Array Int) (h : j ≤ a ∨ lt d[j]! d[j - 1]! = false) : insInner lt a j d = d := by
  cases j with
  | zero => rfl
  | succ k =>
    unfold insInner
    simp only [Nat.add_sub_cancel] at h
    rcases h with h | h
    · rw [decide_eq_false (by omega)]; rfl
    · rw [h, Bool.and_false]; rfl
theorem insOuter_go' (a b i : Nat) (d : Array Int) (h : i < b) : insOuter lt a b i d = insOuter lt a b (i + 1) (insInner lt a i d) := by rw [insOuter, if_pos h]
theorem insOuter_stop' (a b i : Nat) (d : Array Int) (h : ¬ i < b) : insOuter lt a b i d = d := by rw [insOuter, if_neg h]
end

end Go.Proofs.Ytdbbchifkjhfcaa
end

section
/- The library's sort at uint32: Less, the insertion sort. -/
namespace Go.Proofs.Ytdbbchifkjhfcaa
open Go.RowKit Go.Sort

set_option maxHeartbeats 400000 in
theorem isnan_any (x : Int) (w : World) : Calls Try.prog 79 #[.int .u32 x] w fun e w' => e = .returned (.bool false) ∧ w' = w := by
  go_enter Try.func79, Try.ntmps79
  go_wp2
  go_ret
  exact ⟨by simp, rfl⟩

set_option maxHeartbeats 400000 in
theorem less_any (x y : Int) (w : World) : Calls Try.prog 67 #[.int .u32 x, .int .u32 y] w fun e w' => e = .returned (.bool (ltInt x y)) ∧ w' = w := by
  go_enter Try.func67, Try.ntmps67
  go_wp2_with (go_at_call 79; refine (isnan_any _ _).mono ?_; rintro e w' ⟨rfl, rfl⟩)
  go_ret
  exact ⟨rfl, rfl⟩

/-- A call that leaves the world alone, in a region behind one that has drawn. -/
theorem quiet2 {P : Program} {f : FuncId} {args : Array Value} {w : World} {a n : Nat} {v : Value} (h : ∀ W, Calls P f args W fun e w' => e = .returned v ∧ w' = W) :
    Calls P f args (w.drewN (a + n)) fun e w'' => e = .returned v ∧ ∃ m, w'' = w.drewN (a + m) :=
  (h _).mono fun _ _ ⟨he, hw⟩ => ⟨he, n, hw⟩

theorem quiet1 {P : Program} {f : FuncId} {args : Array Value} {w : World} {n : Nat} {v : Value} (h : ∀ W, Calls P f args W fun e w' => e = .returned v ∧ w' = W) :
    Calls P f args (w.drewN n) fun e w'' => e = .returned v ∧ ∃ m, w'' = w.drewN m :=
  (h _).mono fun _ _ ⟨he, hw⟩ => ⟨he, n, hw⟩
theorem quiet3 {P : Program} {f : FuncId} {args : Array Value} {w : World} {a n : Nat} {v : Value} (h : ∀ W, Calls P f args W fun e w' => e = .returned v ∧ w' = W) :
    Calls P f args (w.drewN (a + n)) fun e w'' => e = .returned v ∧ ∃ m, w'' = (w.drewN a).drewN m :=
  (h _).mono fun _ _ ⟨he, hw⟩ => ⟨he, n, by rw [hw, World.drewN_drewN]⟩

set_option maxHeartbeats 3200000 in
theorem insertion_any {te : TypeId} {base g c : Nat} {w : World} {d : Array Int} (h : SRow te base w g c d) (a b : Nat) (hab : a ≤ b) (hb : b ≤ d.size) (hn : d.size ≤ 1000000) :
    Calls Try.prog 61 #[.slice (some ⟨g, 0, none⟩) d.size c, .int .i64 a, .int .i64 b] w fun e w' => e = .returned (.tuple #[]) ∧ SRow te base w' g c (insertionSort ltInt d a b) ∧ (insertionSort ltInt d a b).size = d.size ∧ One g w w' := by
  go_enter Try.func61, Try.ntmps61
  go_wp2
  go_loopw [6] (fun vi wr => ∃ (i : Nat) (dk : Array Int), vi = .int .i64 i ∧ a < i ∧ i ≤ b + 1 ∧ dk.size = d.size ∧ SRow te base wr g c dk ∧ One g w wr ∧ Hid (insOuter ltInt a b i dk = insertionSort ltInt d a b)) (fun vi _ => b + 1 - (intOf vi).toNat)
  case atStart => exact ⟨a + 1, d, by go_num, by omega, by omega, rfl, h, One.refl _ _, rfl⟩
  case round =>
    obtain ⟨i, dk, rfl, hai, hib, hsk, hR, hO, HE⟩ := hrel
    clear h
    by_cases hlt : i < b
    · go_wp2
      obtain ⟨wo, rfl⟩ : ∃ wo : World, wo = wr := ⟨_, rfl⟩
      go_loopw [7] (fun vj wr => ∃ (j : Nat) (dj : Array Int), vj = .int .i64 j ∧ a ≤ j ∧ j ≤ i ∧ dj.size = d.size ∧ SRow te base wr g c dj ∧ One g w wr ∧ Hid (insInner ltInt a j dj = insInner ltInt a i dk)) (fun vj _ => (intOf vj).toNat)
      case atStart => exact ⟨i, dk, rfl, by omega, Nat.le_refl _, hsk, hR, hO, rfl⟩
      case round =>
        obtain ⟨j, dj, rfl, haj, hji, hsj, hRj, hOj, HI⟩ := hrel
        clear hR hO
        have HE' := Lib.hid (insOuter_go' (lt := ltInt) a b i dk hlt)
        by_cases hja : a < j
        · have hjd : j < dj.size := by omega
          have hcw := fun n => (hRj.drewN n).cell (t := j) hjd
          have hcv := fun n => (hRj.drewN n).cell (t := j - 1) (by omega)
          have hfw := fun n => (hRj.drewN n).frozen j
          have hfv := fun n => (hRj.drewN n).frozen (j - 1)
          have hj1 : IntKind.i64.wrap ((j : Int) - 1) = (j : Int) - 1 := IntWalk.i64_in _ (by omega)
          have hj2 : ((j : Int) - 1).toNat = j - 1 := by omega
          have hj3 : 0 ≤ (j : Int) - 1 := by omega
          have hdj : decide (a < j) = true := decide_eq_true hja
          have hdi : decide ((a : Int) < j) = true := decide_eq_true (by omega)
          have hsw := fun n => hRj.two n j (j - 1)
          have hone := fun n => One.two hOj n j (j - 1) (.int .u32 dj[j - 1]!) (.int .u32 dj[j]!)
          have HSW := Lib.hid hsw
          have HONE := Lib.hid hone
          have hout := fun (h : ltInt dj[j]! dj[j - 1]! = false) => insInner_stop' (lt := ltInt) a j dj (.inr h)
          have hgo := fun (h : ltInt dj[j]! dj[j - 1]! = true) => insInner_go' (lt := ltInt) a j dj hja h
          have HOUT := Lib.hid hout
          have HGO := Lib.hid hgo
          clear hsw hout hgo hone
          obtain ⟨x, hx⟩ : ∃ x, dj[j]! = x := ⟨_, rfl⟩
          obtain ⟨y, hy⟩ : ∃ y, dj[j - 1]! = y := ⟨_, rfl⟩
          rw [hx] at hcw HSW HOUT HGO HONE
          rw [hy] at hcv HSW HOUT HGO HONE
          clear hx hy
          obtain ⟨q, hq⟩ : ∃ q, ltInt x y = q := ⟨_, rfl⟩
          rw [hq] at HOUT HGO
          have hless : ∀ n, Calls Try.prog 67 #[.int .u32 x, .int .u32 y] (wr.drewN n) fun e w' => e = .returned (.bool q) ∧ w' = wr.drewN n := fun n => by rw [← hq]; exact less_any x y _
          have HLS := Lib.hid hless
          clear hless hq
          cases q
          · go_wp2_with fail
            go_quiet (first | (go_at_call 67; refine Calls.quiet_of_same (HLS.out _)))
            go_wp2
            go_roundw
            case rel =>
              refine ⟨i + 1, dj, by go_num, by omega, by omega, hsj, hRj.drewN _, hOj.drewN _, ?_⟩
              show insOuter ltInt a b (i + 1) dj = _
              rw [← HE.out, HE'.out, ← HI.out, HOUT.out trivial]
            case measure => simp [intOf]; omega
          · go_wp2_with fail
            go_quiet (first | (go_at_call 67; refine Calls.quiet_of_same (HLS.out _)))
            go_wp2
            go_region
            all_goals go_wp2
            go_roundw
            case rel =>
              refine ⟨j - 1, swp dj j (j - 1), by congr 1; omega, by omega, by omega, by rw [swp_size]; exact hsj, ?_, HONE.out _, ?_⟩
              · exact HSW.out _
              · show insInner ltInt a (j - 1) (swp dj j (j - 1)) = _
                rw [← HI.out, HGO.out trivial]
            case measure => simp [intOf]; omega
        · have hdj : decide (a < j) = false := decide_eq_false hja
          have hdi : decide ((a : Int) < j) = false := decide_eq_false (by omega)
          have hout := insInner_stop' (lt := ltInt) a j dj (.inl (by omega))
          have HOUT := Lib.hid hout
          clear hout
          go_wp2_with fail
          go_quiet (fail)
          go_wp2
          go_roundw
          case rel =>
            refine ⟨i + 1, dj, by go_num, by omega, by omega, hsj, hRj.drewN _, hOj.drewN _, ?_⟩
            show insOuter ltInt a b (i + 1) dj = _
            rw [← HE.out, HE'.out, ← HI.out, HOUT.out]
          case measure => simp [intOf]; omega
    · have hE := HE.out
      rw [insOuter_stop' _ _ _ _ hlt] at hE
      have HE2 := Lib.hid hE
      clear hE
      go_wp2
      go_end0
      exact ⟨rfl, by rw [← HE2.out]; exact hR, by rw [← HE2.out]; exact hsk, hO⟩

end Go.Proofs.Ytdbbchifkjhfcaa
end

