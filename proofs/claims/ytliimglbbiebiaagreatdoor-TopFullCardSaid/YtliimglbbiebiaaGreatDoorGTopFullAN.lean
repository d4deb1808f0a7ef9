/- A part of the proof: Queue, Uid, Store, Tell. -/
import Derived.Test.YtliimglbbiebiaaGreatDoorGTopFullAM
import Derived.Test.YtliimglbbiebiaaGreatDoorGTopFullAA
import Derived.Test.YtliimglbbiebiaaGreatDoorRows
import Derived.WalkKit
import Derived.WalkSpells
import Derived.WalkLawsBesides
import Derived.Deep.RegionWith
import Derived.Deep.QuietTactic
import Derived.BigQuiet
import Derived.StillTailTactics
import Derived.Deep.DeepMust
import Derived.Deep.DeepFit
import Derived.Test.YtliimglbbiebiaaGreatDoorGTopFullAK
import Derived.Test.YtliimglbbiebiaaGreatDoorGTopFullAD

section
/- The queue of events: each method's contract. -/
namespace Go.Proofs.YtliimglbbiebiaaGreatDoor
open Go.RowKit

/-- Block b is a queue whose slice is v; it has the events l. -/
structure Que (w : World) (b : Nat) (v : Value) (l : List Ev) : Prop where
  blk : Blk w b 351 #[v]
  own : Own evE 232 0 w v l
  wf : ∀ x ∈ l, x.wf

theorem Que.ne {w : World} {b : Nat} {v : Value} {l : List Ev} (h : Que w b v l) : v.ownBlock ≠ some b := h.own.blk_ne h.blk (by decide)
theorem Que.fr {S : Nat → Prop} {w w' : World} {b : Nat} {v : Value} {l : List Ev} (h : Que w b v l) (hf : Fr S w w') (hb : ¬ S b) (hv : ∀ g, v.ownBlock = some g → ¬ S g) : Que w' b v l :=
  ⟨Fr.blk hf h.blk hb, h.own.fr hf hv, h.wf⟩
theorem Que.new {w w' : World} {b : Nat} {v : Value} {l : List Ev} (h : Que w b v l) (hf : New w w') : Que w' b v l := h.fr hf id fun _ _ => id

theorem known_pred (w : World) : IsPred w 242 #[] (fun x => decide (1 ≤ x.k ∧ x.k ≤ 3)) := fun W x _ => known_any x W
set_option maxHeartbeats 400000 in
theorem flush1_pred (w : World) (g : Nat) (gone : Bool) (hg : Blk w g 4 #[.bool gone]) : IsPred w 228 #[.pointer (some ⟨g, 0, none⟩)] (fun x => gone || decide (x.k ≠ 2)) := by
  intro W x hn
  have hc : W.cell? ⟨g, 0, none⟩ = some (.bool gone) := (hn.blk hg).cell 0
  have hlt := (hn.blk hg).lt
  have hc1 : ∀ o, (W.alloc o).cell? ⟨g, 0, none⟩ = some (.bool gone) := fun o => (Blk.alloc (hn.blk hg) o).cell 0
  obtain ⟨k, u, f⟩ := x
  show Calls Tryz.prog 228 #[(Ev.val ⟨k, u, f⟩), .pointer (some ⟨g, 0, none⟩)] W _
  unfold Ev.val
  dsimp only
  cases gone
  · by_cases hk : k = 2
    · subst hk
      go_enter Tryz.func228, Tryz.ntmps228
      go_wp2
      go_ret
      exact ⟨rfl, (New.refl _).alloc _⟩
    · have hb : (k != 2) = true := by simp [hk]
      have hd : (false || decide (k ≠ 2)) = true := by simp [hk]
      rw [hd]
      clear hd
      go_enter Tryz.func228, Tryz.ntmps228
      go_wp2
      go_ret
      exact ⟨rfl, (New.refl _).alloc _⟩
  · rw [Bool.true_or]
    go_enter Tryz.func228, Tryz.ntmps228
    go_wp2
    go_ret
    exact ⟨rfl, (New.refl _).alloc _⟩

set_option maxHeartbeats 400000 in
theorem qnew_any (w : World) : Calls Tryz.prog 183 #[] w fun e w' => e = .returned (.pointer (some ⟨w.heap.size, 0, none⟩)) ∧ Que w' w.heap.size (.slice none 0 0) [] ∧ New w w' := by
  go_enter Tryz.func183, Tryz.ntmps183
  go_wp2
  go_ret
  exact ⟨rfl, ⟨Blk.new _ _ _, Own.nil _ _ _ _, by simp⟩, (New.refl _).alloc _⟩

set_option maxHeartbeats 1600000 in
theorem push_any {w : World} {b : Nat} {v : Value} {l : List Ev} (h : Que w b v l) (u : Value) (m : List Ev) (hu : Rd evE w u m) (hm : m.length ≤ 100000) (hl : l.length ≤ 100000) (hw : ∀ x ∈ m, x.wf) :
    Calls Tryz.prog 190 #[.pointer (some ⟨b, 0, none⟩), u] w fun e w' => e = .returned (.tuple #[]) ∧ ∃ v', Que w' b v' (l ++ m.filter fun x => decide (1 ≤ x.k ∧ x.k ≤ 3)) ∧ Fr (fun k => k = b ∨ v.ownBlock = some k) w w' ∧
      (v'.ownBlock = v.ownBlock ∨ ∃ g, v'.ownBlock = some g ∧ w.heap.size ≤ g) := by
  obtain ⟨i0, hi, hz0, hz1, hz2⟩ := info_parts ev_info
  have hlt := h.blk.lt
  go_enter Tryz.func190, Tryz.ntmps190
  go_wp2_with fail
  refine (split_any 242 #[] _ (enters _ _ _ Tryz.func242 (by kernel_rfl) rfl) u m w (known_pred w) hu hm).mono ?_
  rintro e w1 ⟨y, n, rfl, hy, _, hn1⟩
  have h1 := h.new hn1
  have c0 : w1.cell? ⟨b, 0, none⟩ = some v := h1.blk.cell 0
  have f0 : w1.frozen? ⟨b, 0, none⟩ = false := h1.blk.frozen 0
  have hml := List.length_filter_le (fun x : Ev => decide (1 ≤ x.k ∧ x.k ≤ 3)) m
  have hs := hn1.size
  have hvne := h1.ne
  have HV := Lib.hid hvne
  clear hvne
  go_wp2_with (at_builtin; refine wpList_append (E := evE) rfl _ _ _ rfl Tryz.underlying223 hi hz0 hz1 hz2 rfl h1.own rfl hy.rd rfl (by unfold maxLen; omega) (by omega) (by omega) ?_; intro v2 w2 hv2 hf2 hl2; have hb2 : Blk w2 b 351 #[v] := Fr.blk hf2 h1.blk HV.out; have c2 : w2.cell? ⟨b, 0, none⟩ = some v := hb2.cell 0; have f2 : w2.frozen? ⟨b, 0, none⟩ = false := hb2.frozen 0; obtain ⟨A2, N2, C2, hv2e⟩ := own_shape hv2; subst hv2e)
  go_end0
  refine ⟨rfl, _, ⟨hb2.set_ 0 _, hv2.fr ((One.refl b w2).set 0 _) (fun g hg e => ?_), ?_⟩, ?_, ?_⟩
  · subst e
    have := hv2.blk_ne hb2 (by decide)
    exact this hg
  · intro x hx
    rcases List.mem_append.1 hx with hx | hx
    · exact h.wf x hx
    · exact hw x (List.mem_filter.1 hx).1
  · exact (((fr_or hn1 fun _ h => h.elim).trans (fr_or hf2 fun _ h => Or.inr h))).trans (fr_or ((One.refl b w2).set 0 _) fun _ h => Or.inl h)
  · rcases hl2 with hl2 | hl2
    · exact .inl hl2
    · exact .inr ⟨_, hl2, hs⟩

set_option maxHeartbeats 1600000 in
theorem flush_any {w : World} {b : Nat} {v : Value} {l : List Ev} (h : Que w b v l) (gone : Bool) (hl : l.length ≤ 100000) :
    Calls Tryz.prog 180 #[.pointer (some ⟨b, 0, none⟩), .bool gone] w fun e w' => ∃ o v', e = .returned o ∧ Own evE 232 w.heap.size w' o (squeeze (l.filter fun x => gone || decide (x.k ≠ 2))) ∧
      Que w' b v' (l.filter fun x => !(gone || decide (x.k ≠ 2))) ∧ One b w w' ∧ (∀ g, v'.ownBlock = some g → w.heap.size ≤ g) ∧ (o.ownBlock = none ∨ o.ownBlock ≠ v'.ownBlock) := by
  have hmf : ∀ (fn : Fn) (first cap : Array Value) (w : World), (Instr.makeFunc fn first cap).run Tryz.prog w = .ok (.func fn first cap) w := fun _ _ _ _ => rfl
  have c0 : w.cell? ⟨b, 0, none⟩ = some v := h.blk.cell 0
  have hlt := h.blk.lt
  obtain ⟨A, N, C, rfl⟩ := own_shape h.own
  have hbox : Blk (w.alloc (.cells #[.bool gone] 4)) w.heap.size 4 #[.bool gone] := Blk.new _ _ _
  have h0 : Que (w.alloc (.cells #[.bool gone] 4)) b (.slice A N C) l := h.new ((New.refl _).alloc _)
  have hl1 := List.length_filter_le (fun x : Ev => gone || decide (x.k ≠ 2)) l
  go_enter Tryz.func180, Tryz.ntmps180
  go_wp2_with fail
  refine (split_any 228 #[.pointer (some ⟨w.heap.size, 0, none⟩)] _ (enters _ _ _ Tryz.func228 (by kernel_rfl) rfl) _ l _ (flush1_pred _ w.heap.size gone hbox) h0.own.rd hl).mono ?_
  rintro e w1 ⟨y, n, rfl, hy, hno, hn1⟩
  rw [World.size_alloc] at hy hno
  have h1 := h0.new hn1
  have f1 : w1.frozen? ⟨b, 0, none⟩ = false := h1.blk.frozen 0
  have c1 : w1.cell? ⟨b, 0, none⟩ = some (.slice A N C) := h1.blk.cell 0
  have hs := hn1.size
  rw [World.size_alloc] at hs
  obtain ⟨A2, N2, C2, rfl⟩ := own_shape hno
  go_wp2_with fail
  have hb2 : Blk (w1.setCell ⟨b, 0, none⟩ (.slice A2 N2 C2)) b 351 #[.slice A2 N2 C2] := h1.blk.set_ 0 _
  have hnb : ∀ {x : Value} {m : List Ev}, Own evE 232 (w.heap.size + 1) w1 x m → ∀ g, x.ownBlock = some g → ¬ g = b := fun hx g hg e => by have := (hx.block hg).1; omega
  have hno2 := hno.fr ((One.refl b w1).set 0 (.slice A2 N2 C2)) (hnb hno)
  have hy2 := hy.fr ((One.refl b w1).set 0 (.slice A2 N2 C2)) (hnb hy)
  refine (squeeze_any _ _ _ hy2.rd (fun x hx => h.wf x (List.mem_filter.1 hx).1) (by omega)).mono ?_
  rintro e w3 ⟨o, rfl, ho, hn3⟩
  go_wp2
  go_ret
  have hsz : w.heap.size ≤ (w1.setCell ⟨b, 0, none⟩ (.slice A2 N2 C2)).heap.size := by have := ((One.refl b w1).set 0 (.slice A2 N2 C2)).size; omega
  refine ⟨o, .slice A2 N2 C2, rfl, ho.mono hsz, ⟨hn3.blk hb2, (hno2.mono (Nat.zero_le _)).new hn3, fun x hx => h.wf x (List.mem_filter.1 hx).1⟩, ?_, fun g hg => ?_, ?_⟩
  · have f1 : One b w w1 := fr_or (((New.refl w).alloc _).trans hn1) fun _ h => h.elim
    exact (f1.trans ((One.refl b w1).set 0 _)).trans (fr_or hn3 fun _ h => h.elim)
  · have := (hno.block hg).1; omega
  · cases ho' : o.ownBlock with
    | none => exact .inl rfl
    | some g =>
      refine .inr fun he => ?_
      have h5 := (ho.block ho').1
      have h6 := (hno2.block he.symm).2
      omega

end Go.Proofs.YtliimglbbiebiaaGreatDoor
end

section
/- The counter of package uid: each method's contract, over a block that holds the counter's seven numbers. -/
namespace Go.Proofs.YtliimglbbiebiaaGreatDoor
open Go.RowKit

/-- Block b is a counter: the next identifier, how many were taken, the first, the validity, whether that is determined. -/
def Ctr (w : World) (b : Nat) (next taken first val done : Int) : Prop :=
  Blk w b 155 #[.int .u32 next, .int .u64 taken, .int .u32 first, .int .u32 val, .int .u32 done, .int .i32 0, .int .u32 0]

theorem Ctr.c0 {w b n t f v d} (h : Ctr w b n t f v d) : w.cell? ⟨b, 0, none⟩ = some (.int .u32 n) := h.cell 0
theorem Ctr.c1 {w b n t f v d} (h : Ctr w b n t f v d) : w.cell? ⟨b, 1, none⟩ = some (.int .u64 t) := h.cell 1
theorem Ctr.c2 {w b n t f v d} (h : Ctr w b n t f v d) : w.cell? ⟨b, 2, none⟩ = some (.int .u32 f) := h.cell 2
theorem Ctr.c3 {w b n t f v d} (h : Ctr w b n t f v d) : w.cell? ⟨b, 3, none⟩ = some (.int .u32 v) := h.cell 3
theorem Ctr.c4 {w b n t f v d} (h : Ctr w b n t f v d) : w.cell? ⟨b, 4, none⟩ = some (.int .u32 d) := h.cell 4
theorem Ctr.c5 {w b n t f v d} (h : Ctr w b n t f v d) : w.cell? ⟨b, 5, none⟩ = some (.int .i32 0) := h.cell 5

set_option maxHeartbeats 400000 in
/-- (*atomic.Uint32).Store -/
theorem store32 (a : Addr) (u : Value) (y : Int) (w : World) (hc : w.cell? a = some u) (hz : w.frozen? a = false) :
    Calls Tryz.prog 57 #[.pointer (some a), .int .u32 y] w fun e w' => e = .returned (.tuple #[]) ∧ w' = w.setCell a (.int .u32 y) := by
  have hs := run_call_store (P := Tryz.prog) Tryz.func80 (by kernel_rfl) (by kernel_rfl) (by kernel_rfl) (by kernel_rfl) (y := y) (k := .u32) hc hz
  go_enter Tryz.func57, Tryz.ntmps57
  go_wp2
  go_end0
  exact ⟨rfl, rfl⟩

set_option maxHeartbeats 400000 in
/-- (*atomic.Uint32).Load -/
theorem load32 (a : Addr) (x : Int) (w : World) (hc : w.cell? a = some (.int .u32 x)) :
    Calls Tryz.prog 74 #[.pointer (some a)] w fun e w' => e = .returned (.int .u32 x) ∧ w = w' := by
  have hs := run_call_load (P := Tryz.prog) Tryz.func104 (by kernel_rfl) (by kernel_rfl) (by kernel_rfl) .u32 (by kernel_rfl) hc
  go_enter Tryz.func74, Tryz.ntmps74
  go_wp2
  go_ret
  exact ⟨rfl, rfl⟩


set_option maxHeartbeats 400000 in
/-- (*atomic.Uint32).CompareAndSwap where the cell holds the old number. -/
theorem cas32 (a : Addr) (x y : Int) (w : World) (hc : w.cell? a = some (.int .u32 x)) (hz : w.frozen? a = false) :
    Calls Tryz.prog 236 #[.pointer (some a), .int .u32 x, .int .u32 y] w fun e w' => e = .returned (.bool true) ∧ w.setCell a (.int .u32 y) = w' := by
  have hs := run_call_cas_hit (P := Tryz.prog) Tryz.func295 (by kernel_rfl) (by kernel_rfl) (by kernel_rfl) .u32 (by kernel_rfl) (y := y) hc hz
  go_enter Tryz.func236, Tryz.ntmps236
  go_wp2
  go_ret
  exact ⟨rfl, rfl⟩

set_option maxHeartbeats 400000 in
/-- (*atomic.Uint64).Add of 1. -/
theorem add64 (a : Addr) (x : Int) (w : World) (hc : w.cell? a = some (.int .u64 x)) (hz : w.frozen? a = false) (h0 : 0 ≤ x) (h1 : x < 9223372036854775807) :
    Calls Tryz.prog 237 #[.pointer (some a), .int .u64 1] w fun e w' => e = .returned (.int .u64 (x + 1)) ∧ w.setCell a (.int .u64 (x + 1)) = w' := by
  have hs := run_call_add (P := Tryz.prog) Tryz.func296 (by kernel_rfl) (by kernel_rfl) (by kernel_rfl) .u64 (by kernel_rfl) (x := x) (y := 1) (s := x + 1) hc hz (by simp [go_sem, IntKind.wrap_u64]; omega)
  go_enter Tryz.func237, Tryz.ntmps237
  go_wp2
  go_ret
  exact ⟨rfl, rfl⟩

set_option maxRecDepth 100000 in
set_option maxHeartbeats 400000 in
theorem unew_any (next : Int) (w : World) (h0 : 0 ≤ next) (h1 : next ≤ 4294967295) :
    Calls Tryz.prog 36 #[.int .u32 next] w fun e w' => e = .returned (.pointer (some ⟨w.heap.size, 0, none⟩)) ∧ Ctr w' w.heap.size (max next 1) 0 (max next 1) 0 0 ∧ New w w' := by
  rcases Int.lt_or_le next 1 with hn | hn
  · go_enter Tryz.func36, Tryz.ntmps36
    go_wp2_with fail
    refine wp_tail 8 (by kernel_rfl) (by kernel_rfl) ?_
    simp only [List.take_succ_cons, List.take_zero, List.drop_succ_cons, List.drop_zero]
    repeat still_step
    refine wpStill_nil ?_
    go_wp2_with (go_at_call 57; refine (store32 _ (.int .u32 0) _ _ (by simp) (by simp)).mono ?_; rintro e w' ⟨rfl, rfl⟩)
    go_ret
    rw [show max next 1 = 1 by omega]
    exact ⟨rfl, Blk.new _ _ _, ((Fr.refl _ _).alloc _).drew⟩
  · go_enter Tryz.func36, Tryz.ntmps36
    go_wp2_with fail
    refine wp_tail 8 (by kernel_rfl) (by kernel_rfl) ?_
    simp only [List.take_succ_cons, List.take_zero, List.drop_succ_cons, List.drop_zero]
    repeat still_step
    refine wpStill_nil ?_
    go_wp2_with (go_at_call 57; refine (store32 _ (.int .u32 0) _ _ (by simp) (by simp)).mono ?_; rintro e w' ⟨rfl, rfl⟩)
    go_ret
    rw [show max next 1 = next by omega]
    exact ⟨rfl, Blk.new _ _ _, ((Fr.refl _ _).alloc _).drew⟩

section
variable {w : World} {b : Nat} {n t f v d : Int}

set_option maxHeartbeats 400000 in
theorem next_any (h : Ctr w b n t f v d) :
    Calls Tryz.prog 45 #[.pointer (some ⟨b, 0, none⟩)] w fun e w' => e = .returned (.int .u32 n) ∧ w = w' := by
  have c0 := h.c0
  go_enter Tryz.func45, Tryz.ntmps45
  go_wp2_with (go_at_call 74; refine (load32 _ _ _ c0).mono ?_; rintro e w' ⟨rfl, rfl⟩)
  go_ret
  exact ⟨rfl, rfl⟩


set_option maxHeartbeats 800000 in
theorem take_ok (h : Ctr w b n t f v d) (h0 : 0 ≤ n) (h1 : n < 4294967295) (ht0 : 0 ≤ t) (ht1 : t < 9223372036854775807) :
    Calls Tryz.prog 187 #[.pointer (some ⟨b, 0, none⟩)] w fun e w' => e = .returned (.tuple #[.int .u32 n, .int .i64 0]) ∧ Ctr w' b (n + 1) (t + 1) f v d ∧ One b w w' := by
  have c0 := h.c0
  have c1 : (w.setCell ⟨b, 0, none⟩ (.int .u32 (n + 1))).cell? ⟨b, 1, none⟩ = some (.int .u64 t) := (World.cell?_setCell_other _ _ _ _ (by simp)).trans h.c1
  have f0 : w.frozen? ⟨b, 0, none⟩ = false := h.frozen 0
  have f1 : w.frozen? ⟨b, 1, none⟩ = false := h.frozen 1
  go_enter Tryz.func187, Tryz.ntmps187
  go_wp2
  refine wp_loop_rounds 1 ?_
  rw [rounds_succ]
  go_wp2_with (first
    | (go_at_call 74; refine (load32 _ _ _ c0).mono ?_; rintro e w' ⟨rfl, rfl⟩)
    | (go_at_call 236; refine (cas32 _ _ _ _ c0 f0).mono ?_; rintro e w' ⟨rfl, rfl⟩)
    | (go_at_call 237; refine (add64 _ _ _ c1 (by simp [f1]) ht0 ht1).mono ?_; rintro e w' ⟨rfl, rfl⟩))
  go_ret2
  exact ⟨rfl, (h.set_ 0 _).set_ 1 _, (One.refl _ _).set _ _ |>.set _ _⟩

set_option maxHeartbeats 800000 in
theorem take_full (h : Ctr w b n t f v d) (h1 : n = 4294967295) :
    Calls Tryz.prog 187 #[.pointer (some ⟨b, 0, none⟩)] w fun e w' => e = .returned (.tuple #[.int .u32 0, .int .i64 6]) ∧ w = w' := by
  subst h1
  have c0 := h.c0
  go_enter Tryz.func187, Tryz.ntmps187
  go_wp2
  refine wp_loop_rounds 1 ?_
  rw [rounds_succ]
  go_wp2_with (first
    | (go_at_call 74; refine (load32 _ _ _ c0).mono ?_; rintro e w' ⟨rfl, rfl⟩))
  go_ret2
  exact ⟨rfl, rfl⟩

end

end Go.Proofs.YtliimglbbiebiaaGreatDoor
end

section
/- A mailbox: how it stands in memory. -/
namespace Go.Proofs.YtliimglbbiebiaaGreatDoor
open Go.RowKit Go.Maps

abbrev qKeys : KeyEnc Tryz.prog 3 Int := intKeys Tryz.underlying3

/-- Where a mailbox lies: its block, its table, its counter, its index and the index's slice, its queues' map. -/
structure Sx where
  s : Nat
  T : Tb
  c : Nat
  x : Nat
  u : Value
  q : Nat
  cap : Int
  vv : Int
  dd : Int

/-- The queues of the subscribers ids: each one's block, its slice, its events. -/
structure Qs where
  ids : List Int
  b : Int → Nat
  v : Int → Value
  l : Int → List Ev

/-- What a queue's operations may turn. -/
def Qs.foot (Q : Qs) (k : Nat) : Prop := ∃ i ∈ Q.ids, k = Q.b i ∨ (Q.v i).ownBlock = some k
/-- What an operation on a mailbox may turn. -/
def Sx.foot (S : Sx) (Q : Qs) (k : Nat) : Prop := S.T.foot k ∨ k = S.s ∨ k = S.c ∨ k = S.x ∨ S.u.ownBlock = some k ∨ k = S.q ∨ Q.foot k

/-- The queues as they stand. -/
structure QX (w : World) (q : Nat) (Q : Qs) : Prop where
  map : HasMap qKeys w q (Q.ids.map fun i => (i, .pointer (some ⟨Q.b i, 0, none⟩)))
  que : ∀ i ∈ Q.ids, Que w (Q.b i) (Q.v i) (Q.l i)
  qb : ∀ i ∈ Q.ids, ∀ j ∈ Q.ids, Q.b i = Q.b j → i = j
  qv : ∀ i ∈ Q.ids, ∀ j ∈ Q.ids, ∀ g, (Q.v i).ownBlock = some g → (Q.v j).ownBlock = some g → i = j

theorem Qs.lt {w : World} {q : Nat} {Q : Qs} (h : QX w q Q) {k : Nat} (hk : Q.foot k) : k < w.heap.size := by
  obtain ⟨i, hi, rfl | hv⟩ := hk
  · exact (h.que i hi).blk.lt
  · exact ((h.que i hi).own.block hv).2
theorem QX.ids_nd {w : World} {q : Nat} {Q : Qs} (h : QX w q Q) : Q.ids.Nodup := by
  have := h.map.nd
  rw [List.map_map] at this
  simpa [Function.comp_def] using this
theorem QX.fr {S : Nat → Prop} {w w' : World} {q : Nat} {Q : Qs} (h : QX w q Q) (hf : Fr S w w') (hq : ¬ S q) (hS : ∀ k, Q.foot k → ¬ S k) : QX w' q Q :=
  ⟨h.map.fr hf hq, fun i hi => (h.que i hi).fr hf (hS _ ⟨i, hi, .inl rfl⟩) fun _ hg => hS _ ⟨i, hi, .inr hg⟩, h.qb, h.qv⟩
/-- A block of another type is no part of a queue. -/
theorem QX.ne {w : World} {q : Nat} {Q : Qs} (h : QX w q Q) {g : Nat} {t : TypeId} {cs : Array Value} (hg : Blk w g t cs) (h1 : t ≠ 351) (h2 : t ≠ 232) : ¬ Q.foot g := by
  rintro ⟨i, hi, rfl | hv⟩
  · exact hg.ne_ (h.que i hi).blk h1 rfl
  · exact (h.que i hi).own.blk_ne hg (Ne.symm h2) hv
theorem QX.ne_map {w : World} {q : Nat} {Q : Qs} (h : QX w q Q) {P' : Program} {K : TypeId} {α : Type} [DecidableEq α] {E : KeyEnc P' K α} {g : Nat} {l : List (α × Value)} (hg : HasMap E w g l) : ¬ Q.foot g := by
  rintro ⟨i, hi, rfl | hv⟩
  · exact hg.ne_blk (h.que i hi).blk rfl
  · obtain ⟨cs, h1⟩ := (h.que i hi).own.heap hv
    exact hg.ne_blk h1 rfl

/-- A mailbox that was made since w0: it holds the messages M, its next identifier is n, its subscribers' queues are Q. -/
structure STX (w0 : World) (base : Nat) (w : World) (S : Sx) (Q : Qs) (M : List Msg) (n t f : Int) : Prop where
  hd : Blk w S.s 94 #[.pointer (some ⟨S.T.tb, 0, none⟩), .pointer (some ⟨S.c, 0, none⟩), .pointer (some ⟨S.x, 0, none⟩), .int .i64 S.cap, .map (some S.q)]
  tbl : ∃ X : List MB, X.map MB.m = M ∧ TBX base w S.T X
  ctr : Ctr w S.c n t f S.vv S.dd
  vd : S.dd = 0 ∨ S.dd = 1 ∧ S.vv = f
  idx : IdxU 0 w S.x S.u (M.map Msg.uid)
  qx : QX w S.q Q
  as_ : ¬ S.T.foot S.s
  ac : ¬ S.T.foot S.c
  ax : ¬ S.T.foot S.x
  aq : ¬ S.T.foot S.q
  au : ∀ g, S.u.ownBlock = some g → ¬ S.T.foot g
  aQ : ∀ k, Q.foot k → ¬ S.T.foot k
  lo : ∀ k, S.foot Q k → w0.heap.size ≤ k
  hi : S.T.hi ≤ base
  hb : base ≤ w.heap.size
  new : New w0 w
  len : (M.length : Int) ≤ S.cap
  cap : S.cap ≤ 4096
  asc : Asc (M.map Msg.uid)
  below : ∀ m ∈ M, m.uid < n
  n1 : 1 ≤ n ∧ n ≤ 4294967295
  t1 : 0 ≤ t ∧ t < n

section
variable {w0 w w' : World} {base : Nat} {S : Sx} {Q : Qs} {M : List Msg} {n t f : Int}

theorem STX.mlen (h : STX w0 base w S Q M n t f) : M.length ≤ 4096 := by have := h.len; have := h.cap; omega
theorem STX.ok (h : STX w0 base w S Q M n t f) : ∀ m ∈ M, m.ok ∧ m.body.length ≤ 65536 := by
  obtain ⟨X, rfl, hX⟩ := h.tbl
  intro m hm
  obtain ⟨x, hx, rfl⟩ := List.mem_map.1 hm
  exact hX.ok x hx
theorem STX.nd (h : STX w0 base w S Q M n t f) : (M.map Msg.uid).Nodup := h.asc.imp fun h => Int.ne_of_lt h

/-- A block of a type that no part of a mailbox has is none of its blocks, where it lies above the table. -/
theorem STX.q_ne (h : STX w0 base w S Q M n t f) : S.q ≠ S.s ∧ S.q ≠ S.c ∧ S.q ≠ S.x ∧ (∀ g, S.u.ownBlock = some g → S.q ≠ g) ∧ ¬ Q.foot S.q :=
  ⟨h.qx.map.ne_blk h.hd, h.qx.map.ne_blk h.ctr, h.qx.map.ne_blk h.idx.1, fun g hg => by obtain ⟨cs, h1⟩ := h.idx.2.1.heap hg; exact h.qx.map.ne_blk h1, h.qx.ne_map h.qx.map⟩
theorem STX.s_ne (h : STX w0 base w S Q M n t f) : S.s ≠ S.c ∧ S.s ≠ S.x ∧ (∀ g, S.u.ownBlock = some g → S.s ≠ g) ∧ ¬ Q.foot S.s :=
  ⟨h.hd.ne_ h.ctr (by decide), h.hd.ne_ h.idx.1 (by decide), fun g hg => by obtain ⟨cs, h1⟩ := h.idx.2.1.heap hg; exact h.hd.ne_ h1 (by decide), h.qx.ne h.hd (by decide) (by decide)⟩
theorem STX.c_ne (h : STX w0 base w S Q M n t f) : S.c ≠ S.x ∧ (∀ g, S.u.ownBlock = some g → S.c ≠ g) ∧ ¬ Q.foot S.c :=
  ⟨Blk.ne_ h.ctr h.idx.1 (by decide), fun g hg => by obtain ⟨cs, h1⟩ := h.idx.2.1.heap hg; exact Blk.ne_ h.ctr h1 (by decide), h.qx.ne h.ctr (by decide) (by decide)⟩
theorem STX.x_ne (h : STX w0 base w S Q M n t f) : (∀ g, S.u.ownBlock = some g → S.x ≠ g) ∧ ¬ Q.foot S.x :=
  ⟨fun g hg => by obtain ⟨cs, h1⟩ := h.idx.2.1.heap hg; exact Blk.ne_ h.idx.1 h1 (by decide), h.qx.ne h.idx.1 (by decide) (by decide)⟩
theorem STX.u_ne (h : STX w0 base w S Q M n t f) : ∀ g, S.u.ownBlock = some g → ¬ Q.foot g := fun g hg => by
  obtain ⟨cs, h1⟩ := h.idx.2.1.heap hg
  exact h.qx.ne h1 (by decide) (by decide)

theorem STX.foot_lt (h : STX w0 base w S Q M n t f) {k : Nat} (hk : S.foot Q k) : k < w.heap.size := by
  have hb := h.hb
  have hi := h.hi
  rcases hk with hk | rfl | rfl | rfl | hk | rfl | hk
  · have := hk.2; omega
  · exact h.hd.lt
  · exact Blk.lt h.ctr
  · exact h.idx.1.lt
  · exact (h.idx.2.1.block hk).2
  · exact h.qx.map.lt
  · exact Qs.lt h.qx hk

/-- Nothing of the mailbox has turned. -/
theorem STX.keep {R : Nat → Prop} (h : STX w0 base w S Q M n t f) (hf : Fr R w w') (hR : ∀ k, S.foot Q k → ¬ R k) (hRb : ∀ v l, Own (intE .u8) 5 base w v l → ∀ b, v.ownBlock = some b → ¬ R b) (hR0 : ∀ k, R k → w0.heap.size ≤ k) : STX w0 base w' S Q M n t f := by
  obtain ⟨X, hXm, hX⟩ := h.tbl
  refine { h with
    hd := hf.blk h.hd (hR _ (.inr (.inl rfl)))
    tbl := ⟨X, hXm, hX.fr hf (fun k hk hT => hR k (.inl hT) hk) hRb⟩
    ctr := hf.blk h.ctr (hR _ (.inr (.inr (.inl rfl))))
    idx := h.idx.fr hf (hR _ (.inr (.inr (.inr (.inl rfl))))) fun b hb => hR _ (.inr (.inr (.inr (.inr (.inl hb)))))
    qx := h.qx.fr hf (hR _ (.inr (.inr (.inr (.inr (.inr (.inl rfl))))))) fun k hk => hR k (.inr (.inr (.inr (.inr (.inr (.inr hk))))))
    hb := Nat.le_trans h.hb hf.size
    new := New.two h.new hf hR0 }
theorem STX.more (h : STX w0 base w S Q M n t f) (hn : New w w') : STX w0 base w' S Q M n t f := h.keep hn (fun _ _ h => h.elim) (fun _ _ _ _ _ h => h) fun _ h => h.elim
end

end Go.Proofs.YtliimglbbiebiaaGreatDoor
end

section
/- A mailbox: an event is told to the subscribers that a function accepts. -/
namespace Go.Proofs.YtliimglbbiebiaaGreatDoor
open Go.RowKit Go.Maps

theorem everyone_any (i : Int) (w : World) : Calls Tryz.prog 135 #[.int .i64 i] w fun e w' => e = .returned (.bool true) ∧ w' = w := by
  go_enter Tryz.func135, Tryz.ntmps135
  go_wp2
  go_ret
  exact ⟨rfl, rfl⟩

set_option maxHeartbeats 400000 in
theorem change1_any (i by_ : Int) (g : Nat) (w : World) (hg : w.cell? ⟨g, 0, none⟩ = some (.int .i64 by_)) : Calls Tryz.prog 197 #[.int .i64 i, .pointer (some ⟨g, 0, none⟩)] w fun e w' => e = .returned (.bool (i != by_)) ∧ w' = w := by
  go_enter Tryz.func197, Tryz.ntmps197
  go_wp2
  go_ret
  exact ⟨rfl, rfl⟩

/-- What the events of subscriber i become. -/
def toldL (p : Int → Bool) (ev : Ev) (Q : Qs) : Int → List Ev := fun i => if p i then Q.l i ++ [ev] else Q.l i

/-- The queues behind a tell. -/
def Qs.told (Q : Qs) (p : Int → Bool) (ev : Ev) (v' : Int → Value) : Qs := { Q with v := v', l := toldL p ev Q }

/-- The loop over the subscribers, under way. -/
structure Told (w0 wr : World) (q r nn : Nat) (D : DataW Value) (Q : Qs) (p : Int → Bool) (ev : Ev) (v' : Int → Value) (left : Lit → Bool) (cnt : Nat) : Prop where
  rng : wr.ranges Tryz.prog 3 R0 q r nn D left cnt
  que : ∀ i ∈ Q.ids, Que wr (Q.b i) (v' i) (if left (.int .i64 i) = false ∧ p i = true then Q.l i ++ [ev] else Q.l i)
  inj : ∀ i ∈ Q.ids, ∀ j ∈ Q.ids, ∀ g, (v' i).ownBlock = some g → (v' j).ownBlock = some g → i = j
  stay : ∀ i ∈ Q.ids, Stays w0 (Q.v i) (v' i)
  fr : Fr (fun k => Q.foot k ∨ k = r) w0 wr

section
variable {w0 wr w1 : World} {q r nn : Nat} {D : DataW Value} {Q : Qs} {p : Int → Bool} {ev : Ev} {v' : Int → Value} {left : Lit → Bool} {cnt cnt1 : Nat} {x : Int}

theorem Told.skip (h : Told w0 wr q r nn D Q p ev v' left cnt) (hr : ∀ i ∈ Q.ids, Q.b i ≠ r ∧ (v' i).ownBlock ≠ some r) (hf : Fr (fun k => k = r) wr w1) (hp : p x = false)
    (hrg : w1.ranges Tryz.prog 3 R0 q r nn D (fun k => left k && !k.sameKey (.int .i64 x)) cnt1) : Told w0 w1 q r nn D Q p ev v' (fun k => left k && !k.sameKey (.int .i64 x)) cnt1 := by
  refine ⟨hrg, fun i hi => ?_, h.inj, h.stay, Fr.trans h.fr (fr_or hf fun k hk => .inr hk)⟩
  have h1 := (h.que i hi).fr hf (fun hs => (hr i hi).1 hs) (fun g hg hs => (hr i hi).2 (by rw [hg, hs]))
  have hsk : Lit.sameKey (.int .i64 i) (.int .i64 x) = decide (i = x) := by simp [Lit.sameKey]
  have e : (if ((left (.int .i64 i) && !Lit.sameKey (.int .i64 i) (.int .i64 x)) = false ∧ p i = true) then Q.l i ++ [ev] else Q.l i) = if left (.int .i64 i) = false ∧ p i = true then Q.l i ++ [ev] else Q.l i := by
    rw [hsk]
    by_cases hix : i = x
    · subst hix
      simp [hp]
    · simp [hix]
  rw [e]
  exact h1

theorem Told.push (h : Told w0 wr q r nn D Q p ev v' left cnt) (hqb : ∀ i ∈ Q.ids, ∀ j ∈ Q.ids, Q.b i = Q.b j → i = j) (hq : ∀ i ∈ Q.ids, (v' i).ownBlock ≠ some (Q.b x)) (hq2 : ∀ i ∈ Q.ids, (v' x).ownBlock ≠ some (Q.b i)) (hlv : ∀ i ∈ Q.ids, ∀ g, (v' i).ownBlock = some g → g < wr.heap.size)
    (hr : ∀ i ∈ Q.ids, Q.b i ≠ r ∧ (v' i).ownBlock ≠ some r) (hx : x ∈ Q.ids) (hp : p x = true) (hlx : left (.int .i64 x) = true) {vx : Value} (hque : Que w1 (Q.b x) vx (Q.l x ++ [ev]))
    (hf : Fr (fun k => k = r ∨ k = Q.b x ∨ (v' x).ownBlock = some k) wr w1) (hst : Stays wr (v' x) vx) 
    (hrg : w1.ranges Tryz.prog 3 R0 q r nn D (fun k => left k && !k.sameKey (.int .i64 x)) cnt1) : Told w0 w1 q r nn D Q p ev (fun i => if i = x then vx else v' i) (fun k => left k && !k.sameKey (.int .i64 x)) cnt1 := by
  have hsz := h.fr.size
  refine ⟨hrg, fun i hi => ?_, fun i hi j hj g h1 h2 => ?_, fun i hi => ?_, Fr.trans' h.fr hf fun k hk hs => ?_⟩
  · have hsk : Lit.sameKey (.int .i64 i) (.int .i64 x) = decide (i = x) := by simp [Lit.sameKey]
    by_cases hix : i = x
    · subst hix
      simp only [hsk, hlx, hp]
      simpa using hque
    · have h1 := (h.que i hi).fr hf (fun hs => ?_) (fun g hg hs => ?_)
      · simp only [hsk, hix, if_false]
        simpa [hix] using h1
      · rcases hs with hs | hs | hs
        · exact (hr i hi).1 hs
        · exact hix (hqb i hi x hx hs)
        · exact hq2 i hi hs
      · rcases hs with hs | hs | hs
        · exact (hr i hi).2 (by rw [hg, hs])
        · exact hq i hi (by rw [hg, hs])
        · exact hix (h.inj i hi x hx g hg hs)
  · by_cases hix : i = x
    · by_cases hjx : j = x
      · rw [hix, hjx]
      · simp only [hix, if_true] at h1
        simp only [hjx, if_false] at h2
        rcases hst with h3 | ⟨b, h3, h4⟩
        · rw [h3] at h1
          rw [hix]
          exact h.inj x hx j hj g h1 h2
        · rw [h3] at h1
          cases h1
          have := hlv j hj g h2
          omega
    · simp only [hix, if_false] at h1
      by_cases hjx : j = x
      · simp only [hjx, if_true] at h2
        rcases hst with h3 | ⟨b, h3, h4⟩
        · rw [h3] at h2
          rw [hjx]
          exact h.inj i hi x hx g h1 h2
        · rw [h3] at h2
          cases h2
          have := hlv i hi g h1
          omega
      · simp only [hjx, if_false] at h2
        exact h.inj i hi j hj g h1 h2
  · by_cases hix : i = x
    · subst hix
      simp only [if_true]
      rcases hst with h3 | ⟨b, h3, h4⟩
      · rcases h.stay i hi with h5 | ⟨b, h5, h6⟩
        · exact .inl (h3.trans h5)
        · exact .inr ⟨b, h3.trans h5, h6⟩
      · exact .inr ⟨b, h3, by omega⟩
    · simp only [hix, if_false]
      exact h.stay i hi
  · rcases hs with hs | hs | hs
    · exact .inr hs
    · exact .inl ⟨x, hx, .inl hs⟩
    · rcases h.stay x hx with h5 | ⟨b, h5, h6⟩
      · exact .inl ⟨x, hx, .inr (by rw [← h5]; exact hs)⟩
      · rw [h5] at hs
        cases hs
        omega
end

theorem Stays.mono {w w' : World} {u u' : Value} (h : Stays w' u u') (hs : w.heap.size ≤ w'.heap.size) : Stays w u u' := by
  rcases h with h | ⟨b, h1, h2⟩
  · exact .inl h
  · exact .inr ⟨b, h1, Nat.le_trans hs h2⟩

set_option maxRecDepth 100000 in
set_option maxHeartbeats 3200000 in
theorem tell_any {w : World} {s q : Nat} {Q : Qs} {c0 c1 c2 c3 : Value} (hs : Blk w s 94 #[c0, c1, c2, c3, .map (some q)]) (h : QX w q Q) (hl : ∀ i ∈ Q.ids, (Q.l i).length ≤ 90000)
    (ev : Ev) (hw : ev.wf) (hk : 1 ≤ ev.k ∧ ev.k ≤ 3) (fn : Nat) (cap : Array Value) (p : Int → Bool) (hE : ∀ args w, (callFunc fn args).run Tryz.prog w = .ok (.enter fn args) w)
    (hacc : ∀ W i, Fr Q.foot w W → Calls Tryz.prog fn (#[.int .i64 i] ++ cap) W fun e w' => e = .returned (.bool (p i)) ∧ w' = W) :
    Calls Tryz.prog 134 #[.pointer (some ⟨s, 0, none⟩), ev.val, .func (.func fn) #[] cap] w fun e w' => e = .returned (.tuple #[]) ∧ ∃ v', QX w' q (Q.told p ev v') ∧ Fr Q.foot w w' ∧ ∀ i ∈ Q.ids, Stays w (Q.v i) (v' i) := by
  obtain ⟨D, hown, hD1, hD2⟩ := h.map.own
  have hsl := hs.lt
  have cs4 : w.cell? ⟨s, 4, none⟩ = some (.map (some q)) := hs.cell 4
  have hoks : ∀ i ∈ Q.ids, qKeys.ok i := fun i hi => h.map.oks _ (List.mem_map.2 ⟨i, hi, rfl⟩)
  have hgt : ∀ i ∈ Q.ids, get (Q.ids.map fun i => (i, Value.pointer (some ⟨Q.b i, 0, none⟩))) i = some (.pointer (some ⟨Q.b i, 0, none⟩)) := fun i hi => get_of_mem h.map.nd (List.mem_map.2 ⟨i, hi, rfl⟩)
  have HHAS : Hid (∀ i ∈ Q.ids, Maps.has D (.int .i64 i) = true) := Lib.hid (fun i hi => by
    have h1 := has_of (hD2 i (hoks i hi))
    rw [hgt i hi] at h1
    exact h1)
  have HFIND : Hid (∀ (x : Int) (c : Value), qKeys.ok x → (∀ zd, D.atKey (.int .i64 x) zd = .held c) → x ∈ Q.ids ∧ c = .pointer (some ⟨Q.b x, 0, none⟩)) := fun x c hx hat => by
    have h1 := hD2 x hx
    cases hg : get (Q.ids.map fun i => (i, Value.pointer (some ⟨Q.b i, 0, none⟩))) x with
    | none =>
      rw [hg] at h1
      have h2 := (hat (.held (.bool true))).symm.trans (h1 _)
      have h3 := (hat (.held (.bool false))).symm.trans (h1 _)
      rw [h2] at h3
      cases h3
    | some u =>
      rw [hg] at h1
      have h2 := (hat (.held (.bool true))).symm.trans (h1 _)
      have h3 := mem_of_get hg
      obtain ⟨i, hi, hzz⟩ := List.mem_map.1 h3
      injection hzz with e1 e2
      injection h2 with h2
      subst e1
      exact ⟨hi, by rw [h2, ← e2]⟩
  have hqv : ∀ i ∈ Q.ids, ∀ g, (Q.v i).ownBlock = some g → g < w.heap.size := fun i hi g hg => ((h.que i hi).own.block hg).2
  have hqbl : ∀ i ∈ Q.ids, Q.b i < w.heap.size := fun i hi => (h.que i hi).blk.lt
  have hql := h.map.lt
  obtain ⟨k, u, f⟩ := ev
  have hb0 : Blk (w.alloc (.cells #[.int .i64 k, .int .u32 u, .int .u8 f] 232)) w.heap.size 232 #[.int .i64 k, .int .u32 u, .int .u8 f] := Blk.new _ _ _
  generalize hnn : (Q.ids.map fun i => (i, Value.pointer (some ⟨Q.b i, 0, none⟩))).length = nn at *
  have hown1 : (w.alloc (.cells #[.int .i64 k, .int .u32 u, .int .u8 f] 232)).ownsMap Tryz.prog 3 R0 q nn D := by
    have h1 := (Fr.alloc (Fr.refl (fun _ => False) w) (.cells #[.int .i64 k, .int .u32 u, .int .u8 f] 232)).block q hql id
    obtain ⟨es, clock, h2, h3⟩ := hown
    exact ⟨es, clock, h1.trans h2, h3⟩
  have HOWN := Lib.hid hown1
  have H := Lib.hid h
  have HW := Lib.hid hw
  have HK := Lib.hid hk
  have HL := Lib.hid hl
  have HACC := Lib.hid hacc
  have HQV := Lib.hid hqv
  have HQB := Lib.hid hqbl
  clear hD2 hgt hown hown1 hoks h hw hk hl hacc hqv hqbl hnn hD1
  simp only [Ev.val]
  go_enter Tryz.func134, Tryz.ntmps134
  go_wp2_with (first
    | (at_range; refine wpList_range_own _ rfl _ 92 rfl 3 280 qKeys.law Tryz.underlying92 _ q nn D rfl HOWN.out ?_; intro wz hrg0 hg0 hs0)
    | fail)
  have hnz : New (w.alloc (.cells #[.int .i64 k, .int .u32 u, .int .u8 f] 232)) wz := Fr.of_grown hg0 fun _ h => by cases h
  have HNZ := Lib.hid (((New.refl w).alloc _).trans hnz)
  have hsz : w.heap.size + 1 < wz.heap.size := by simp at hs0; omega
  have HS0 := Lib.hid hs0
  have HT0 : Hid (Told wz wz q (w.heap.size + 1) nn D Q p ⟨k, u, f⟩ Q.v (Maps.has D) (Maps.size D)) := Lib.hid (by
    have hrg1 := hrg0
    simp only [World.size_alloc] at hrg1
    refine ⟨hrg1, fun i hi => ?_, H.out.qv, fun i hi => .inl rfl, Fr.refl _ _⟩
    rw [if_neg (by rw [HHAS.out i hi]; simp)]
    exact (H.out.que i hi).new HNZ.out)
  clear hs0
  try go_frame
  go_loopw [6] (fun _ wr => ∃ (v' : Int → Value) (left : Lit → Bool) (cnt : Nat), Hid (Told wz wr q (w.heap.size + 1) nn D Q p ⟨k, u, f⟩ v' left cnt)) (fun _ wr => wr.rangeLeft q (w.heap.size + 1))
  case atStart => exact ⟨Q.v, _, _, HT0.out⟩
  case round =>
    obtain ⟨v', left, cnt, HR⟩ := hrel
    clear HT0
    have hrg := HR.out.rng
    have hszw := HR.out.fr.size
    have hbr : Blk wr w.heap.size 232 #[.int .i64 k, .int .u32 u, .int .u8 f] := HR.out.fr.blk (hnz.blk hb0) (fun hs => by
      rcases hs with ⟨i, hi, hs | hs⟩ | hs
      · have := HQB.out i hi; omega
      · have := HQV.out i hi _ hs; omega
      · omega)
    go_wp2_with (first
      | (at_next; refine wpList_next_ranges _ rfl _ rfl 3 qKeys.law R0 (Value.int .i64) (fun c : Value => c) (fun key kl hk => by obtain ⟨x, hx, _⟩ := Maps.keyOf_int_inv Tryz.underlying3 hk; exact ⟨x, hx⟩) (fun v y _ => ⟨v, rfl⟩) q (w.heap.size + 1) nn _ _ _ rfl hrg ?_ ?_)
      | fail)
    · intro hc0 hl0
      have HL0 := Lib.hid hl0
      clear hl0 hc0
      go_wp2
      go_end0
      refine ⟨rfl, v', ⟨?_, fun i hi => ?_, H.out.qb, HR.out.inj⟩, Fr.trans' (New.to HNZ.out) HR.out.fr fun k hk hs => ?_, fun i hi => (HR.out.stay i hi).mono (by omega)⟩
      · exact H.out.map.fr (Fr.trans' (New.to HNZ.out) HR.out.fr fun k hk hs => hs) (fun hs => by
          rcases hs with hs | hs
          · exact H.out.ne_map H.out.map hs
          · omega)
      · have h1 := HR.out.que i hi
        show Que _ (Q.b i) (v' i) (toldL p _ Q i)
        unfold toldL
        simpa [HL0.out] using h1
      · rcases hs with hs | hs
        · exact hs
        · omega
    · intro x c kl y py w1 cnt1 hkey hlk hRc hat hrg1 hlt hg1 hs1 hen
      obtain ⟨x', hx', rfl, hxw⟩ := Maps.keyOf_int_inv Tryz.underlying3 hkey
      injection hx' with _ hx'
      subst hx'
      simp only [R0, Option.some.injEq, Prod.mk.injEq] at hRc
      obtain ⟨rfl, rfl⟩ := hRc
      obtain ⟨hx, rfl⟩ := HFIND.out x c hxw hat
      have hrne : ∀ i ∈ Q.ids, Q.b i ≠ w.heap.size + 1 ∧ (v' i).ownBlock ≠ some (w.heap.size + 1) := fun i hi => ⟨ranges_ne hrg (HR.out.que i hi).blk, fun hs => by obtain ⟨cs, h1⟩ := (HR.out.que i hi).own.heap hs; exact ranges_ne hrg h1 rfl⟩
      have hn1 : Fr (fun k => k = w.heap.size + 1) wr w1 := Fr.of_grown hg1 fun i hi => by injection hi with hi; exact hi.symm
      have hFw : Fr Q.foot w w1 := Fr.trans' (Fr.trans' (New.to HNZ.out) HR.out.fr fun k hk hs => by rcases hs with hs | hs; exact hs; omega) hn1 fun k hk hs => by omega
      have HA := Lib.hid (HACC.out w1 x hFw)
      have HRN := Lib.hid hrne
      have HS1 := Lib.hid hs1
      have hsle : wr.heap.size ≤ w1.heap.size := hn1.size
      have hb1 := hn1.blk hbr (by omega)
      have hb1l := hb1.lt
      clear hs1 hrne hFw
      cases hp : p x with
      | false =>
        rw [hp] at HA
        have HP := Lib.hid hp
        clear hp
        go_wp2_with fail
        refine HA.out.mono ?_
        rintro e w2 ⟨rfl, rfl⟩
        go_wp2
        go_roundw
        case rel => exact ⟨v', _, cnt1, HR.out.skip HRN.out hn1 HP.out hrg1⟩
        case measure => rw [hrg1.left_eq, hrg.left_eq]; exact hlt
      | true =>
        rw [hp] at HA
        have HP := Lib.hid hp
        clear hp
        go_wp2_with fail
        refine HA.out.mono ?_
        rintro e w2 ⟨rfl, rfl⟩
        have hq1 := (HR.out.que x hx).fr hn1 (fun hs => (HRN.out x hx).1 hs) (fun g hg hs => (HRN.out x hx).2 (by rw [hg, hs]))
        rw [if_neg (by rw [hlk]; simp)] at hq1
        have d0 : w2.cell? ⟨w.heap.size, 0, none⟩ = some (.int .i64 k) := hb1.cell 0
        have d1 : w2.cell? ⟨w.heap.size, 1, none⟩ = some (.int .u32 u) := hb1.cell 1
        have d2 : w2.cell? ⟨w.heap.size, 2, none⟩ = some (.int .u8 f) := hb1.cell 2
        have hqa := hq1.new ((New.refl w2).alloc (.cells #[.int .i64 k, .int .u32 u, .int .u8 f] 232))
        have hpu := push_any hqa (.slice (some ⟨w2.heap.size, 0, none⟩) 1 1) [⟨k, u, f⟩] (rd_block evE (Blk.new _ _ _) [⟨k, u, f⟩] rfl) (by simp) (by have := HL.out x hx; omega) (fun y hy => by rw [List.mem_singleton.1 hy]; exact HW.out)
        rw [show ([⟨k, u, f⟩] : List Ev).filter (fun x => decide (1 ≤ x.k ∧ x.k ≤ 3)) = [⟨k, u, f⟩] by simpa using HK.out] at hpu
        have HPU := Lib.hid hpu
        have HQ1 := Lib.hid hq1
        clear hpu hqa hq1
        go_wp2_with fail
        refine HPU.out.mono ?_
        rintro e w3 ⟨rfl, vx, hq3, hf3, hst⟩
        have hF : Fr (fun k => k = w.heap.size + 1 ∨ k = Q.b x ∨ (v' x).ownBlock = some k) wr w3 := Fr.trans ((fr_or hn1 fun k hk => .inl hk).alloc _) (fr_or hf3 fun k hk => .inr hk)
        have hrg3 : w3.ranges Tryz.prog 3 R0 q (w.heap.size + 1) nn D (fun k => left k && !k.sameKey (.int .i64 x)) cnt1 := by
          refine ranges_fr (ranges_fr hrg1 ((New.refl w2).alloc _) id id) hf3 (fun hs => ?_) (fun hs => ?_)
          · rcases hs with hs | hs
            · exact ranges_map_ne hrg1 HQ1.out.blk hs.symm
            · obtain ⟨cs, h1⟩ := HQ1.out.own.heap hs
              exact ranges_map_ne hrg1 h1 rfl
          · rcases hs with hs | hs
            · exact ranges_ne hrg1 HQ1.out.blk hs.symm
            · obtain ⟨cs, h1⟩ := HQ1.out.own.heap hs
              exact ranges_ne hrg1 h1 rfl
        have HT3 := Lib.hid (HR.out.push H.out.qb (fun i hi => (HR.out.que i hi).own.blk_ne (HR.out.que x hx).blk (by decide)) (fun i hi => (HR.out.que x hx).own.blk_ne (HR.out.que i hi).blk (by decide))
          (fun i hi g hg => ((HR.out.que i hi).own.block hg).2) HRN.out hx HP.out hlk hq3 hF (Stays.mono hst (by simp; omega)) hrg3)
        have HLE : Hid (w3.rangeLeft q (w.heap.size + 1) = cnt1) := Lib.hid hrg3.left_eq
        have HLE0 : Hid (wr.rangeLeft q (w.heap.size + 1) = cnt) := Lib.hid hrg.left_eq
        clear hq3 hf3 hst hF hrg3
        go_wp2
        go_roundw
        case rel => exact ⟨_, _, cnt1, HT3.out⟩
        case measure => rw [HLE.out, HLE0.out]; exact hlt

end Go.Proofs.YtliimglbbiebiaaGreatDoor
end

