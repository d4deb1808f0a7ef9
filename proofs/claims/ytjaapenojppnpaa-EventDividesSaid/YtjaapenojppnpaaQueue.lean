/- The queue of events: each method's contract. -/
import Derived.Test.YtjaapenojppnpaaSqueezeW
import Derived.Test.YtjaapenojppnpaaEvEq
namespace Go.Proofs.Ytjaapenojppnpaa
open Go.RowKit

/-- Block b is a queue whose slice is v; it has the events l. -/
structure Que (w : World) (b : Nat) (v : Value) (l : List Ev) : Prop where
  blk : Blk w b 59 #[v]
  own : Own evE 29 0 w v l
  wf : ∀ x ∈ l, x.wf

theorem Que.ne {w : World} {b : Nat} {v : Value} {l : List Ev} (h : Que w b v l) : v.ownBlock ≠ some b := h.own.blk_ne h.blk (by decide)
theorem Que.fr {S : Nat → Prop} {w w' : World} {b : Nat} {v : Value} {l : List Ev} (h : Que w b v l) (hf : Fr S w w') (hb : ¬ S b) (hv : ∀ g, v.ownBlock = some g → ¬ S g) : Que w' b v l :=
  ⟨Fr.blk hf h.blk hb, h.own.fr hf hv, h.wf⟩
theorem Que.new {w w' : World} {b : Nat} {v : Value} {l : List Ev} (h : Que w b v l) (hf : New w w') : Que w' b v l := h.fr hf id fun _ _ => id

theorem known_pred (w : World) : IsPred w 31 #[] (fun x => decide (1 ≤ x.k ∧ x.k ≤ 3)) := fun W x _ => known_any x W
theorem enters (f : Nat) (fn : Func) (c : Code) (hf : Try.prog.funcs[f]? = some fn) (hn : (fn.name == "runtime.NumGoroutine") = false) (hb : fn.body = some c) (args : Array Value) (w : World) : (callFunc f args).run Try.prog w = .ok (.enter f args) w := by
  have h1 : fn.name ≠ "runtime.NumGoroutine" := by simpa using hn
  simp [callFunc, hf, h1, hb]

set_option maxHeartbeats 400000 in
theorem flush1_pred (w : World) (g : Nat) (gone : Bool) (hg : Blk w g 4 #[.bool gone]) : IsPred w 32 #[.pointer (some ⟨g, 0, none⟩)] (fun x => gone || decide (x.k ≠ 2)) := by
  intro W x hn
  have hc : W.cell? ⟨g, 0, none⟩ = some (.bool gone) := (hn.blk hg).cell 0
  have hlt := (hn.blk hg).lt
  have hc1 : ∀ o, (W.alloc o).cell? ⟨g, 0, none⟩ = some (.bool gone) := fun o => (Blk.alloc (hn.blk hg) o).cell 0
  obtain ⟨k, u, f⟩ := x
  show Calls Try.prog 32 #[(Ev.val ⟨k, u, f⟩), .pointer (some ⟨g, 0, none⟩)] W _
  unfold Ev.val
  dsimp only
  cases gone
  · by_cases hk : k = 2
    · subst hk
      go_enter Try.func32, Try.ntmps32
      go_wp2
      go_ret
      exact ⟨rfl, (New.refl _).alloc _⟩
    · have hb : (k != 2) = true := by simp [hk]
      have hd : (false || decide (k ≠ 2)) = true := by simp [hk]
      rw [hd]
      clear hd
      go_enter Try.func32, Try.ntmps32
      go_wp2
      go_ret
      exact ⟨rfl, (New.refl _).alloc _⟩
  · rw [Bool.true_or]
    go_enter Try.func32, Try.ntmps32
    go_wp2
    go_ret
    exact ⟨rfl, (New.refl _).alloc _⟩

set_option maxHeartbeats 400000 in
theorem qnew_any (w : World) : Calls Try.prog 15 #[] w fun e w' => e = .returned (.pointer (some ⟨w.heap.size, 0, none⟩)) ∧ Que w' w.heap.size (.slice none 0 0) [] ∧ New w w' := by
  go_enter Try.func15, Try.ntmps15
  go_wp2
  go_ret
  exact ⟨rfl, ⟨Blk.new _ _ _, Own.nil _ _ _ _, by simp⟩, (New.refl _).alloc _⟩

set_option maxHeartbeats 400000 in
theorem len_any {w : World} {b : Nat} {v : Value} {l : List Ev} (h : Que w b v l) : Calls Try.prog 21 #[.pointer (some ⟨b, 0, none⟩)] w fun e w' => e = .returned (.int .i64 l.length) ∧ w = w' := by
  have c0 : w.cell? ⟨b, 0, none⟩ = some v := h.blk.cell 0
  obtain ⟨A, c, rfl, _⟩ := h.own.form
  go_enter Try.func21, Try.ntmps21
  go_wp2
  go_ret
  exact ⟨rfl, rfl⟩

set_option maxHeartbeats 400000 in
theorem clear_any {w : World} {b : Nat} {v : Value} {l : List Ev} (h : Que w b v l) : Calls Try.prog 18 #[.pointer (some ⟨b, 0, none⟩)] w fun e w' => e = .returned (.int .i64 l.length) ∧ Que w' b (.slice none 0 0) [] ∧ One b w w' := by
  have c0 : w.cell? ⟨b, 0, none⟩ = some v := h.blk.cell 0
  have f0 : w.frozen? ⟨b, 0, none⟩ = false := h.blk.frozen 0
  obtain ⟨A, c, rfl, _⟩ := h.own.form
  go_enter Try.func18, Try.ntmps18
  go_wp2_with (go_at_call 21; refine (len_any h).mono ?_; rintro e w' ⟨rfl, rfl⟩)
  go_ret
  exact ⟨rfl, ⟨h.blk.set_ 0 _, Own.nil _ _ _ _, by simp⟩, (One.refl _ _).set _ _⟩

theorem own_shape {α : Type} {E : Elem α} {e : TypeId} {base : Nat} {w : World} {v : Value} {l : List α} (h : Own E e base w v l) : ∃ A n c, v = .slice A n c := by
  obtain ⟨A, c, h, _⟩ := h.form
  exact ⟨A, _, c, h⟩

theorem fr_or {S T : Nat → Prop} {a b : World} (h : Fr S a b) (hT : ∀ i, S i → T i) : Fr T a b := h.mono fun i _ => hT i

set_option maxHeartbeats 1600000 in
theorem push_any {w : World} {b : Nat} {v : Value} {l : List Ev} (h : Que w b v l) (u : Value) (m : List Ev) (hu : Rd evE w u m) (hm : m.length ≤ 100000) (hl : l.length ≤ 100000) (hw : ∀ x ∈ m, x.wf) :
    Calls Try.prog 16 #[.pointer (some ⟨b, 0, none⟩), u] w fun e w' => e = .returned (.tuple #[]) ∧ ∃ v', Que w' b v' (l ++ m.filter fun x => decide (1 ≤ x.k ∧ x.k ≤ 3)) ∧ Fr (fun k => k = b ∨ v.ownBlock = some k) w w' ∧
      (v'.ownBlock = v.ownBlock ∨ ∃ g, v'.ownBlock = some g ∧ w.heap.size ≤ g) := by
  obtain ⟨i0, hi, hz0, hz1, hz2⟩ := info_parts ev_info
  have hlt := h.blk.lt
  go_enter Try.func16, Try.ntmps16
  go_wp2_with fail
  refine (split_any 31 #[] _ (enters _ _ _ Try.func31 (by kernel_rfl) rfl) u m w (known_pred w) hu hm).mono ?_
  rintro e w1 ⟨y, n, rfl, hy, _, hn1⟩
  have h1 := h.new hn1
  have c0 : w1.cell? ⟨b, 0, none⟩ = some v := h1.blk.cell 0
  have f0 : w1.frozen? ⟨b, 0, none⟩ = false := h1.blk.frozen 0
  have hml := List.length_filter_le (fun x : Ev => decide (1 ≤ x.k ∧ x.k ≤ 3)) m
  have hs := hn1.size
  have hvne := h1.ne
  have HV := Lib.hid hvne
  clear hvne
  go_wp2_with (at_builtin; refine wpList_append (E := evE) rfl _ _ _ rfl Try.underlying22 hi hz0 hz1 hz2 rfl h1.own rfl hy.rd rfl (by unfold maxLen; omega) (by omega) (by omega) ?_; intro v2 w2 hv2 hf2 hl2; have hb2 : Blk w2 b 59 #[v] := Fr.blk hf2 h1.blk HV.out; have c2 : w2.cell? ⟨b, 0, none⟩ = some v := hb2.cell 0; have f2 : w2.frozen? ⟨b, 0, none⟩ = false := hb2.frozen 0; obtain ⟨A2, N2, C2, hv2e⟩ := own_shape hv2; subst hv2e)
  go_end0
  refine ⟨rfl, _, ⟨hb2.set_ 0 _, hv2.fr ((One.refl b w2).set 0 _) (fun g hg e => ?_), ?_⟩, ?_, ?_⟩
  · subst e
    have := hv2.blk_ne hb2 (by decide)
    exact this hg
  · intro x hx
    rcases List.mem_append.1 hx with hx | hx
    · exact h.wf x hx
    · exact hw x (List.mem_filter.1 hx).1
  · exact (((fr_or hn1 fun _ h => h.elim).trans (fr_or hf2 fun _ h => Or.inr h))).trans (fr_or ((One.refl b w2).set 0 _) fun _ h => Or.inl h)
  · rcases hl2 with hl2 | hl2
    · exact .inl hl2
    · exact .inr ⟨_, hl2, hs⟩

set_option maxHeartbeats 1600000 in
theorem flush_any {w : World} {b : Nat} {v : Value} {l : List Ev} (h : Que w b v l) (gone : Bool) (hl : l.length ≤ 100000) :
    Calls Try.prog 20 #[.pointer (some ⟨b, 0, none⟩), .bool gone] w fun e w' => ∃ o v', e = .returned o ∧ Own evE 29 w.heap.size w' o (squeeze (l.filter fun x => gone || decide (x.k ≠ 2))) ∧
      Que w' b v' (l.filter fun x => !(gone || decide (x.k ≠ 2))) ∧ One b w w' ∧ (∀ g, v'.ownBlock = some g → w.heap.size ≤ g) ∧ (o.ownBlock = none ∨ o.ownBlock ≠ v'.ownBlock) := by
  have hmf : ∀ (fn : Fn) (first cap : Array Value) (w : World), (Instr.makeFunc fn first cap).run Try.prog w = .ok (.func fn first cap) w := fun _ _ _ _ => rfl
  have c0 : w.cell? ⟨b, 0, none⟩ = some v := h.blk.cell 0
  have hlt := h.blk.lt
  obtain ⟨A, N, C, rfl⟩ := own_shape h.own
  have hbox : Blk (w.alloc (.cells #[.bool gone] 4)) w.heap.size 4 #[.bool gone] := Blk.new _ _ _
  have h0 : Que (w.alloc (.cells #[.bool gone] 4)) b (.slice A N C) l := h.new ((New.refl _).alloc _)
  have hl1 := List.length_filter_le (fun x : Ev => gone || decide (x.k ≠ 2)) l
  go_enter Try.func20, Try.ntmps20
  go_wp2_with fail
  refine (split_any 32 #[.pointer (some ⟨w.heap.size, 0, none⟩)] _ (enters _ _ _ Try.func32 (by kernel_rfl) rfl) _ l _ (flush1_pred _ w.heap.size gone hbox) h0.own.rd hl).mono ?_
  rintro e w1 ⟨y, n, rfl, hy, hno, hn1⟩
  rw [World.size_alloc] at hy hno
  have h1 := h0.new hn1
  have f1 : w1.frozen? ⟨b, 0, none⟩ = false := h1.blk.frozen 0
  have c1 : w1.cell? ⟨b, 0, none⟩ = some (.slice A N C) := h1.blk.cell 0
  have hs := hn1.size
  rw [World.size_alloc] at hs
  obtain ⟨A2, N2, C2, rfl⟩ := own_shape hno
  go_wp2_with fail
  have hb2 : Blk (w1.setCell ⟨b, 0, none⟩ (.slice A2 N2 C2)) b 59 #[.slice A2 N2 C2] := h1.blk.set_ 0 _
  have hnb : ∀ {x : Value} {m : List Ev}, Own evE 29 (w.heap.size + 1) w1 x m → ∀ g, x.ownBlock = some g → ¬ g = b := fun hx g hg e => by have := (hx.block hg).1; omega
  have hno2 := hno.fr ((One.refl b w1).set 0 (.slice A2 N2 C2)) (hnb hno)
  have hy2 := hy.fr ((One.refl b w1).set 0 (.slice A2 N2 C2)) (hnb hy)
  refine (squeeze_any _ _ _ hy2.rd (fun x hx => h.wf x (List.mem_filter.1 hx).1) (by omega)).mono ?_
  rintro e w3 ⟨o, rfl, ho, hn3⟩
  go_wp2
  go_ret
  have hsz : w.heap.size ≤ (w1.setCell ⟨b, 0, none⟩ (.slice A2 N2 C2)).heap.size := by have := ((One.refl b w1).set 0 (.slice A2 N2 C2)).size; omega
  refine ⟨o, .slice A2 N2 C2, rfl, ho.mono hsz, ⟨hn3.blk hb2, (hno2.mono (Nat.zero_le _)).new hn3, fun x hx => h.wf x (List.mem_filter.1 hx).1⟩, ?_, fun g hg => ?_, ?_⟩
  · have f1 : One b w w1 := fr_or (((New.refl w).alloc _).trans hn1) fun _ h => h.elim
    exact (f1.trans ((One.refl b w1).set 0 _)).trans (fr_or hn3 fun _ h => h.elim)
  · have := (hno.block hg).1; omega
  · cases ho' : o.ownBlock with
    | none => exact .inl rfl
    | some g =>
      refine .inr fun he => ?_
      have h5 := (ho.block ho').1
      have h6 := (hno2.block he.symm).2
      omega

end Go.Proofs.Ytjaapenojppnpaa
