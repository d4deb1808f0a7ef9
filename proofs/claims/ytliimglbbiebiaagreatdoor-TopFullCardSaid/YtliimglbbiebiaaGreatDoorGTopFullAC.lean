/- A part of the proof: TblNew, StepPut, Flag. -/
import Derived.Test.YtliimglbbiebiaaGreatDoorGTopFullAB
import Derived.Test.YtliimglbbiebiaaGreatDoorGTopFullAA
import Derived.WalkKit
import Derived.WalkSpells
import Derived.WalkLawsBesides
import Derived.Deep.QuietTactic
import Derived.BigQuiet
import Derived.Lib.Hide

section
/- A table of messages in stripes: New, Stripes, Of. -/
namespace Go.Proofs.YtliimglbbiebiaaGreatDoor
open Go.RowKit Go.Maps

/-- A pointer to a part. -/
def ptrE : Elem Nat where
  enc q := [.pointer (some ⟨q, 0, none⟩)]
  sz := 1
  len _ := rfl
  one x u hu := by simp at hu; subst hu; rfl
  pos := Nat.one_pos

theorem ptr_info : (Tryz.prog.info? 135).map (fun i => (i.zero, i.size, i.bytes)) = some (some (.pointer none), 1, 8) := by kernel_rfl
theorem zeroTable (w : World) : (zeroValue 134).run Tryz.prog w = .ok (.agg #[.slice none 0 0]) w := by kernel_rfl

theorem HasMap.ne_blk {P : Program} {K : TypeId} {α : Type} [DecidableEq α] {E : KeyEnc P K α} {w : World} {b : Nat} {l : List (α × Value)} (h : HasMap E w b l) {g : Nat} {t : TypeId} {cs : Array Value} (hb : Blk w g t cs) : b ≠ g := by
  rintro rfl
  obtain ⟨D, ⟨es, clock, h1, _⟩, _⟩ := h.own
  unfold Blk at hb
  rw [h1] at hb
  cases hb

/-- The parts of a table as they are made. -/
structure Parts (w0 w : World) (tb : Nat) (v : Value) (qs ms : List Nat) : Prop where
  hd : Blk w tb 134 #[v]
  own : Own ptrE 135 w0.heap.size w v qs
  len : ms.length = qs.length
  part : ∀ (i q m : Nat), qs[i]? = some q → ms[i]? = some m → Blk w q 143 #[.int .i32 0, .int .u32 0, .map (some m)]
  map : ∀ m ∈ ms, HasMap uKeys w m []
  qge : ∀ q ∈ qs, w0.heap.size ≤ q
  mge : ∀ m ∈ ms, w0.heap.size ≤ m
  nq : qs.Nodup
  nm : ms.Nodup
  tbge : w0.heap.size ≤ tb
  new : New w0 w

theorem Parts.lt {w0 w : World} {tb : Nat} {v : Value} {qs ms : List Nat} (h : Parts w0 w tb v qs ms) : (∀ q ∈ qs, q < w.heap.size) ∧ ∀ m ∈ ms, m < w.heap.size := by
  refine ⟨fun q hq => ?_, fun m hm => (h.map m hm).lt⟩
  obtain ⟨i, hi⟩ := List.mem_iff_getElem?.1 hq
  have hl := (List.getElem?_eq_some_iff.1 hi).1
  exact (h.part i q _ hi (List.getElem?_eq_getElem (by rw [h.len]; exact hl))).lt

theorem nodup_snoc {l : List Nat} {n : Nat} (h : l.Nodup) (hn : ∀ x ∈ l, x < n) : (l ++ [n]).Nodup := by
  rw [List.nodup_append]
  refine ⟨h, by simp, fun a ha b hb => ?_⟩
  have := hn a ha
  simp at hb
  omega

theorem Parts.step {w0 w w2 : World} {tb : Nat} {v v2 : Value} {qs ms : List Nat} (h : Parts w0 w tb v qs ms) {cs : Array Value}
    (ho : Own ptrE 135 w0.heap.size w2 v2 (qs ++ [w.heap.size + 1]))
    (hf : Fr (fun k => v.ownBlock = some k) (((w.alloc (.map #[] 0)).alloc (.cells #[.int .i32 0, .int .u32 0, .map (some w.heap.size)] 143)).alloc (.cells cs 135)) w2) :
    Parts w0 (w2.setCell ⟨tb, 0, none⟩ v2) tb v2 (qs ++ [w.heap.size + 1]) (ms ++ [w.heap.size]) := by
  obtain ⟨hql, hml⟩ := h.lt
  have hn3 : New w (((w.alloc (.map #[] 0)).alloc (.cells #[.int .i32 0, .int .u32 0, .map (some w.heap.size)] 143)).alloc (.cells cs 135)) := (((New.refl w).alloc _).alloc _).alloc _
  have hf2 : Fr (fun k => v.ownBlock = some k) w w2 := Fr.trans' (New.to hn3) hf fun _ _ h => h
  have hf3 : Fr (fun k => v.ownBlock = some k ∨ k = tb) w (w2.setCell ⟨tb, 0, none⟩ v2) := (fr_or hf2 fun _ h => .inl h).setCell (fun _ => .inr rfl) _
  have hne : ∀ b, v.ownBlock = some b → ∀ g t cs', Blk w g t cs' → t ≠ 135 → g ≠ b := fun b hb g t cs' hg ht => by
    obtain ⟨cs2, h2⟩ := h.own.heap hb
    exact hg.ne_ h2 ht
  have hlo := fun b hb => (h.own.block (b := b) hb)
  have b2 : Blk w2 tb 134 #[v] := hf2.blk h.hd fun hs => hne _ hs _ _ _ h.hd (by decide) rfl
  have hsz := hn3.size
  have hsz' : (((w.alloc (.map #[] 0)).alloc (.cells #[.int .i32 0, .int .u32 0, .map (some w.heap.size)] 143)).alloc (.cells cs 135)).heap.size = w.heap.size + 3 := by simp
  have hns : ∀ k, w.heap.size ≤ k → ¬ v.ownBlock = some k := fun k hk hs => by have := (hlo k hs).2; omega
  have htl := h.hd.lt
  have p2 : Blk (w2.setCell ⟨tb, 0, none⟩ v2) (w.heap.size + 1) 143 #[.int .i32 0, .int .u32 0, .map (some w.heap.size)] :=
    (hf.blk ((Blk.new1 w _ _ _).alloc _) (hns _ (by omega))).far (by simp; omega) _
  have m2 : HasMap uKeys (w2.setCell ⟨tb, 0, none⟩ v2) w.heap.size [] :=
    ((((HasMap.made uKeys w).alloc _).alloc _).fr hf (hns _ (Nat.le_refl _))).setCell (by simp; omega) _
  refine ⟨b2.set_ 0 _, ?_, by simp [h.len], ?_, ?_, ?_, ?_, nodup_snoc h.nq (fun x hx => by have := hql x hx; omega), nodup_snoc h.nm hml, h.tbge, ?_⟩
  · refine ho.fr (S := fun k => k = tb) ((Fr.refl (fun k => k = tb) _).setCell (p := ⟨tb, 0, none⟩) (fun _ => rfl) _) fun b hb hs => ?_
    subst hs
    obtain ⟨cs2, h2⟩ := ho.heap hb
    exact b2.ne_ h2 (by decide) rfl
  · intro i q m hq hm
    rcases Nat.lt_or_ge i qs.length with hi | hi
    · rw [List.getElem?_append_left hi] at hq
      rw [List.getElem?_append_left (by rw [h.len]; exact hi)] at hm
      have hb := h.part i q m hq hm
      refine hf3.blk hb fun hs => ?_
      rcases hs with hs | rfl
      · exact hne _ hs _ _ _ hb (by decide) rfl
      · exact hb.ne_ h.hd (by decide) rfl
    · rw [List.getElem?_append_right hi] at hq
      rw [List.getElem?_append_right (by rw [h.len]; exact hi), h.len] at hm
      have hi0 : i - qs.length = 0 := by
        have := (List.getElem?_eq_some_iff.1 hq).1
        simp at this; omega
      rw [hi0] at hq hm
      simp at hq hm
      subst hq hm
      exact p2
  · intro m hm
    rcases List.mem_append.1 hm with hm | hm
    · have hb := h.map m hm
      refine hb.fr hf3 fun hs => ?_
      rcases hs with hs | rfl
      · obtain ⟨cs2, h2⟩ := h.own.heap hs
        exact hb.ne_blk h2 rfl
      · exact hb.ne_blk h.hd rfl
    · simp at hm
      subst hm
      exact m2
  · intro q hq
    rcases List.mem_append.1 hq with hq | hq
    · exact h.qge q hq
    · have := h.new.size
      simp at hq
      omega
  · intro m hm
    rcases List.mem_append.1 hm with hm | hm
    · exact h.mge m hm
    · have := h.new.size
      simp at hm
      omega
  · exact New.two h.new hf3 fun i hi => by
      rcases hi with hi | rfl
      · exact (hlo i hi).1
      · exact h.tbge

theorem ent_nil (n i : Nat) : ent n i [] = [] := rfl

theorem Parts.table {w0 w : World} {tb : Nat} {v : Value} {qs ms : List Nat} (h : Parts w0 w tb v qs ms) (h0 : 0 < qs.length) (h1 : qs.length ≤ 16) :
    ∃ T : Tb, T.tb = tb ∧ T.n = qs.length ∧ T.lo = w0.heap.size ∧ T.hi = w.heap.size ∧ TBX w.heap.size w T [] := by
  obtain ⟨hql, hml⟩ := h.lt
  obtain ⟨A, c, hv, hc⟩ := h.own.form
  obtain ⟨g, rfl⟩ : ∃ g, A = some ⟨g, 0, none⟩ := by
    have h2 := h.own
    rw [hv] at h2
    exact h2.some_ h0
  have hgb : v.ownBlock = some g := by rw [hv]; rfl
  obtain ⟨cs, hcs⟩ := h.own.heap hgb
  have hgl := h.own.block hgb
  have hq : ∀ i, i < qs.length → ∃ q m, qs[i]? = some q ∧ ms[i]? = some m ∧ qs.getD i 0 = q ∧ ms.getD i 0 = m := fun i hi => by
    refine ⟨qs[i], ms[i]'(by rw [h.len]; exact hi), List.getElem?_eq_getElem hi, List.getElem?_eq_getElem _, ?_, ?_⟩
    · simp [List.getD, List.getElem?_eq_getElem hi]
    · simp [List.getD, List.getElem?_eq_getElem (show i < ms.length by rw [h.len]; exact hi)]
  refine ⟨⟨tb, g, c, qs.length, fun i => qs.getD i 0, fun i => ms.getD i 0, w0.heap.size, w.heap.size⟩, rfl, rfl, rfl, rfl, ⟨hv ▸ h.hd, h0, h1, hc, ⟨cs, hcs, fun i hi => ?_⟩, fun i hi => ?_, fun i hi => ?_, by simp, by simp, by simp, fun i j hi hj => ?_, fun i j hi hj => ?_, ⟨h.tbge, h.hd.lt⟩, hgl, fun i hi => ?_, fun i hi => ?_, Nat.le_refl _⟩⟩
  · obtain ⟨q, m, e1, e2, e3, e4⟩ := hq i hi
    have h2 := h.own
    rw [hv] at h2
    have h3 := h2.cell_at e1 (j := 0) (u := .pointer (some ⟨q, 0, none⟩)) rfl
    rw [hcs.cell] at h3
    show cs[i]? = some (.pointer (some ⟨qs.getD i 0, 0, none⟩))
    rw [e3, ← h3]
    simp [ptrE]
  · obtain ⟨q, m, e1, e2, e3, e4⟩ := hq i hi
    simp only [e3, e4]
    exact h.part i q m e1 e2
  · obtain ⟨q, m, e1, e2, e3, e4⟩ := hq i hi
    simp only [e4, ent_nil]
    exact h.map m (List.mem_iff_getElem?.2 ⟨i, e2⟩)
  · obtain ⟨q, m, e1, e2, e3, e4⟩ := hq i hi
    obtain ⟨q', m', e1', e2', e3', e4'⟩ := hq j hj
    simp only [e3, e3']
    rintro rfl
    exact (List.getElem?_inj hi h.nq).1 (e1.trans e1'.symm)
  · obtain ⟨q, m, e1, e2, e3, e4⟩ := hq i hi
    obtain ⟨q', m', e1', e2', e3', e4'⟩ := hq j hj
    simp only [e4, e4']
    rintro rfl
    exact (List.getElem?_inj (by rw [h.len]; exact hi) h.nm).1 (e2.trans e2'.symm)
  · obtain ⟨q, m, e1, e2, e3, e4⟩ := hq i hi
    have h5 : q ∈ qs := List.mem_iff_getElem?.2 ⟨i, e1⟩
    show w0.heap.size ≤ qs.getD i 0 ∧ qs.getD i 0 < w.heap.size
    rw [e3]
    exact ⟨h.qge q h5, hql q h5⟩
  · obtain ⟨q, m, e1, e2, e3, e4⟩ := hq i hi
    have h5 : m ∈ ms := List.mem_iff_getElem?.2 ⟨i, e2⟩
    show w0.heap.size ≤ ms.getD i 0 ∧ ms.getD i 0 < w.heap.size
    rw [e4]
    exact ⟨h.mge m h5, hml m h5⟩

set_option maxHeartbeats 800000 in
theorem tnew_none (n : Int) (hn : n < 1 ∨ 16 < n) (w : World) : Calls Tryz.prog 35 #[.int .i64 n] w fun e w' => e = .returned (.pointer none) ∧ New w w' := by
  rcases Int.lt_or_le n 1 with h1 | h1
  · have hd : decide (n < 1) = true := decide_eq_true h1
    clear hn
    go_enter Tryz.func35, Tryz.ntmps35
    go_wp2
    go_ret
    exact ⟨rfl, New.refl _⟩
  · have hd : decide (n < 1) = false := decide_eq_false (by omega)
    have hd2 : decide (16 < n) = true := decide_eq_true (by omega)
    clear hn
    go_enter Tryz.func35, Tryz.ntmps35
    go_wp2
    go_ret
    exact ⟨rfl, New.refl _⟩

set_option maxRecDepth 100000 in
set_option maxHeartbeats 3200000 in
theorem tnew_any (n : Nat) (h0 : 0 < n) (h1 : n ≤ 16) (w : World) :
    Calls Tryz.prog 35 #[.int .i64 n] w fun e w' => ∃ T : Tb, e = .returned (.pointer (some ⟨T.tb, 0, none⟩)) ∧ T.n = n ∧ T.lo = w.heap.size ∧ T.hi = w'.heap.size ∧ TBX w'.heap.size w' T [] ∧ New w w' := by
  have hd : decide ((n : Int) < 1) = false := decide_eq_false (by omega)
  have hd2 : decide ((16 : Int) < n) = false := decide_eq_false (by omega)
  obtain ⟨i0, hi, hz0, hz1, hz2⟩ := info_parts ptr_info
  have hmm := @run_makeMap Tryz.prog
  go_enter Tryz.func35, Tryz.ntmps35
  go_wp2
  go_loopw [13] (fun vi wr => ∃ (k : Nat) (v : Value) (qs ms : List Nat), vi = .int .i64 k ∧ k ≤ n ∧ qs.length = k ∧ Parts w wr w.heap.size v qs ms) (fun vi _ => n - (intOf vi).toNat)
  case atStart => exact ⟨0, .slice none 0 0, [], [], rfl, Nat.zero_le _, rfl, ⟨Blk.new _ _ _, Own.nil _ _ _ _, rfl, by simp, by simp, by simp, by simp, by simp, by simp, Nat.le_refl _, (New.refl w).alloc _⟩⟩
  case round =>
    obtain ⟨k, v, qs, ms, rfl, hk, hql, HP⟩ := hrel
    by_cases hlt : k < n
    · have hd3 : decide ((k : Int) < n) = true := decide_eq_true (by omega)
      have hkw : IntKind.i64.wrap ((k : Int) + 1) = (k : Int) + 1 := IntWalk.i64_in _ (by omega)
      have c0 := HP.hd.cell 0
      have f0 := HP.hd.frozen 0
      have hsz := HP.new.size
      have htl := HP.hd.lt
      have hO := ((HP.own.alloc (.map #[] 0)).alloc (.cells #[.int .i32 0, .int .u32 0, .map (some wr.heap.size)] 143)).alloc (.cells #[.pointer (some ⟨wr.heap.size + 1, 0, none⟩)] 135)
      have hn3 : New wr (((wr.alloc (.map #[] 0)).alloc (.cells #[.int .i32 0, .int .u32 0, .map (some wr.heap.size)] 143)).alloc (.cells #[.pointer (some ⟨wr.heap.size + 1, 0, none⟩)] 135)) := (((New.refl wr).alloc _).alloc _).alloc _
      have hb3 := Blk.new2 wr (.map #[] 0) (.cells #[.int .i32 0, .int .u32 0, .map (some wr.heap.size)] 143) 135 #[.pointer (some ⟨wr.heap.size + 1, 0, none⟩)]
      have hs3 : (((wr.alloc (.map #[] 0)).alloc (.cells #[.int .i32 0, .int .u32 0, .map (some wr.heap.size)] 143)).alloc (.cells #[.pointer (some ⟨wr.heap.size + 1, 0, none⟩)] 135)).heap.size = wr.heap.size + 3 := by simp
      obtain ⟨A, N, C, rfl⟩ := own_shape HP.own
      have hvb := fun b hb => HP.own.heap (g := b) hb
      go_wp2_with (first
        | (at_builtin; refine wpList_push (E := ptrE) rfl _ _ _ rfl Tryz.underlying132 hi hz0 hz1 hz2 rfl hO rfl (wr.heap.size + 1) (wr.heap.size + 2) hb3 1 rfl (by unfold maxLen; omega) (by omega) (by omega) ?_; intro v2 w2 hv2 hf2 hl2
           obtain ⟨A2, N2, C2, rfl⟩ := own_shape hv2
           have hb2 : Blk w2 w.heap.size 134 #[.slice A N C] := (fr_or hf2 fun _ h => h).blk (hn3.blk HP.hd) (fun hs => by obtain ⟨cs2, h2⟩ := hvb _ hs; exact HP.hd.ne_ h2 (by decide) rfl)
           have d0 := hb2.cell 0
           have g0 := hb2.frozen 0)
        | fail)
      go_roundw
      case rel => exact ⟨k + 1, _, _, _, by go_num, by omega, by simp; omega, HP.step hv2 hf2⟩
      case measure => simp [intOf]; omega
    · have hd3 : decide ((k : Int) < n) = false := decide_eq_false (by omega)
      obtain ⟨T, e1, e2, e3, e4, e5⟩ := HP.table (by omega) (by omega)
      go_wp2
      go_ret
      exact ⟨T, by first | (rw [e1]; done) | (simp only [e1]; done) | simp [e1], by omega, e3, e4, e5, HP.new⟩

set_option maxHeartbeats 400000 in
theorem tof_nil (k : Int) (w : World) : Calls Tryz.prog 238 #[.pointer none, .int .u32 k] w fun e w' => e = .returned (.int .i64 0) ∧ w' = w := by
  go_enter Tryz.func238, Tryz.ntmps238
  go_wp2
  go_ret
  exact ⟨rfl, rfl⟩

set_option maxHeartbeats 800000 in
theorem tof_any {base : Nat} {w : World} {T : Tb} {X : List MB} (h : TBX base w T X) (k : Int) (h0 : 0 ≤ k) (_h1 : k ≤ 4294967295) : Calls Tryz.prog 238 #[.pointer (some ⟨T.tb, 0, none⟩), .int .u32 k] w fun e w' => e = .returned (.int .i64 (k % T.n)) ∧ w' = w := by
  have c0 := h.hd.cell 0
  have e1 := h.n0
  have e2 := h.n1
  have hw : IntKind.u32.wrap (T.n : Int) = T.n := by simp [IntKind.wrap_u32]; omega
  have hmod : Int.tmod k (T.n : Int) = k % T.n := Int.tmod_eq_emod_of_nonneg h0
  have hm0 : 0 ≤ k % (T.n : Int) := Int.emod_nonneg _ (by omega)
  have hm1 : k % (T.n : Int) < T.n := Int.emod_lt_of_pos _ (by omega)
  have hw2 : IntKind.i64.wrap (k % (T.n : Int)) = k % T.n := IntWalk.i64_in _ (by omega)
  have hw3 : IntKind.u32.wrap (k % (T.n : Int)) = k % T.n := by simp [IntKind.wrap_u32]; omega
  have hz : ((T.n : Int) == 0) = false := by simp; omega
  have hz' : (T.n : Int) ≠ 0 := by omega
  go_enter Tryz.func238, Tryz.ntmps238
  go_wp2
  go_ret
  exact ⟨rfl, rfl⟩

end Go.Proofs.YtliimglbbiebiaaGreatDoor
end

section
/- A store into a map as a step of a region that draws its order. Plain lemmas; of no program. -/
namespace Go.Proofs.YtliimglbbiebiaaGreatDoor
open Go.RowKit Go.Maps

section
variable {P : Program} {K : TypeId} {α : Type} [DecidableEq α] {E : KeyEnc P K α} {w : World} {b : Nat} {l : List (α × Value)}
variable {ops : Array Oper} {rest : List Oper} {o : Oper} {a : Act} {Q : Exit → Act → World → Prop} {C : Act → World → Prop}

theorem step_put {F : Prop} (hg : o.guard = none) (m x v : Operand) (t e : TypeId) (hop : o.op = Op.mapUpdate t m x v) (ht : P.underlying t = some (.map K e))
    (h : HasMap E w b l) (hn : l.length < maxLen) (k : α) (hk : E.ok k) (u : Value) (hm : a.eval m = .map (some b)) (hx : a.eval x = E.kv k) (hv : a.eval v = u)
    (hK : ∀ w', HasMap E w' b (put l k u) → One b w w' → C (a.put o.dst undef) w') :
    if Region.wanted o (yielded ops a.tmps) = true then Oper.wp P o a w C Q else F := by
  have hw : Region.wanted o (yielded ops a.tmps) = true := by simp [Region.wanted, hg]
  rw [if_pos hw]
  obtain ⟨w', hr, h1, h2⟩ := h.run_put ht hn hk u
  unfold Oper.wp
  simp [execOp, hop, hm, hx, hv, hr, Result.andThen]
  exact hK w' h1 h2
end

end Go.Proofs.YtliimglbbiebiaaGreatDoor
end

section
/- flag.Change: the flags behind a change, over a map of three functions; the reference's Change. -/
namespace Go.Proofs.YtliimglbbiebiaaGreatDoor
open Go.RowKit Go.Maps

section
variable {P : Program} {K : TypeId} {α : Type} [DecidableEq α] {E : KeyEnc P K α} {w : World} {b : Nat} {l : List (α × Value)}
variable {ops : Array Oper} {rest : List Oper} {o : Oper} {a : Act} {Q : Exit → Act → World → Prop}
/-- An entry of a map literal. -/
theorem wpList_ins (hg : o.guard = none) (m x v : Operand) (t e : TypeId) (hop : o.op = Op.insert t m x v) (ht : P.underlying t = some (.map K e))
    (h : HasMap E w b l) (hn : l.length < maxLen) (k : α) (hk : E.ok k) (u : Value) (hm : a.eval m = .map (some b)) (hx : a.eval x = E.kv k) (hv : a.eval v = u)
    (hK : ∀ w', HasMap E w' b (put l k u) → One b w w' → wpList P ops Q rest (a.put o.dst undef) w') : wpList P ops Q (o :: rest) a w := by
  refine wpList_plain hg fun K' hK' => ?_
  obtain ⟨w', hr, h1, h2⟩ := h.run_put ht hn hk u
  unfold Oper.wp
  simp [execOp, hop, hm, hx, hv, hr, Result.andThen]
  exact hK' _ _ (hK w' h1 h2)
end

abbrev iKeys : KeyEnc Tryz.prog 3 Int := intKeys Tryz.underlying3

theorem put_len {α : Type} [DecidableEq α] (l : List (α × Value)) (k : α) (v : Value) : (put l k v).length ≤ l.length + 1 := by
  unfold put del
  rw [List.length_cons]
  have := List.length_filter_le (fun p : α × Value => decide (p.1 ≠ k)) l
  omega
theorem ins_len {α : Type} [DecidableEq α] {l : List (α × Value)} {n : Nat} {k : α} {v : Value} (h : l.length ≤ n) : (put l k v).length ≤ n + 1 := by
  have := put_len l k v
  omega
theorem put_small {α : Type} [DecidableEq α] {l : List (α × Value)} {k : α} {v : Value} (h : l.length ≤ 1000000) : (put l k v).length < maxLen := by
  have := put_len l k v
  unfold maxLen
  omega
theorem okI0 : iKeys.ok 0 := by show (Lit.int .i64 0).wf = true; decide
theorem okI1 : iKeys.ok 1 := by show (Lit.int .i64 1).wf = true; decide
theorem okI2 : iKeys.ok 2 := by show (Lit.int .i64 2).wf = true; decide

theorem zeroFn (w : World) : (zeroValue 409).run Tryz.prog w = .ok .nilFunc w := by kernel_rfl

set_option maxHeartbeats 400000 in
theorem set_replace (a b : Int) (w : World) : Calls Tryz.prog 302 #[.int .u8 a, .int .u8 b] w fun e w' => e = .returned (.int .u8 b) ∧ w = w' := by
  go_enter Tryz.func302, Tryz.ntmps302
  go_wp2
  go_ret
  exact ⟨rfl, rfl⟩
set_option maxHeartbeats 400000 in
theorem set_add (a b : Int) (w : World) : Calls Tryz.prog 303 #[.int .u8 a, .int .u8 b] w fun e w' => e = .returned (.int .u8 (bits .or .u8 a b)) ∧ w = w' := by
  go_enter Tryz.func303, Tryz.ntmps303
  go_wp2
  go_ret
  exact ⟨rfl, rfl⟩
set_option maxHeartbeats 400000 in
theorem set_remove (a b : Int) (w : World) : Calls Tryz.prog 304 #[.int .u8 a, .int .u8 b] w fun e w' => e = .returned (.int .u8 (bits .andNot .u8 a b)) ∧ w = w' := by
  go_enter Tryz.func304, Tryz.ntmps304
  go_wp2
  go_ret
  exact ⟨rfl, rfl⟩

/-- What the map of changes has. -/
def fnL : List (Int × Value) := put (put (put [] 0 (.func (.func 302) #[] #[])) 1 (.func (.func 303) #[] #[])) 2 (.func (.func 304) #[] #[])

theorem fnL_get (mode : Int) : get fnL mode = if mode = 0 then some (.func (.func 302) #[] #[]) else if mode = 1 then some (.func (.func 303) #[] #[]) else if mode = 2 then some (.func (.func 304) #[] #[]) else none := by
  unfold fnL
  by_cases h2 : mode = 2
  · subst h2; rw [get_put_same]; rfl
  · rw [get_put_other _ _ h2]
    by_cases h1 : mode = 1
    · subst h1; rw [get_put_same]; rfl
    · rw [get_put_other _ _ h1]
      by_cases h0 : mode = 0
      · subst h0; rw [get_put_same]; rfl
      · rw [get_put_other _ _ h0, if_neg h0, if_neg h1, if_neg h2]; rfl

set_option maxRecDepth 100000 in
set_option maxHeartbeats 1600000 in
/-- Change where the map has a function at the mode. -/
theorem change_at (g : Nat) (x old mode f : Int) (h1 : old ≤ 31) (h2 : f ≤ 31) (hm : (Lit.int .i64 mode).wf = true) (hE : ∀ args w, (callFunc g args).run Tryz.prog w = .ok (.enter g args) w)
    (hfn : ∀ w, Calls Tryz.prog g #[.int .u8 old, .int .u8 f] w fun e w' => e = .returned (.int .u8 x) ∧ w = w') (hg : get fnL mode = some (.func (.func g) #[] #[])) (w : World) :
    Calls Tryz.prog 248 #[.int .u8 old, .int .i64 mode, .int .u8 f] w fun e w' => e = .returned (.tuple #[.int .u8 x, .bool true]) ∧ New w w' := by
  have HM := Lib.hid hm
  have HG := Lib.hid hg
  have h00 := HasMap.made iKeys w
  have hmm := @run_makeMap Tryz.prog
  have d1 : decide (31 < old) = false := decide_eq_false (by omega)
  have d2 : decide (31 < f) = false := decide_eq_false (by omega)
  clear hm hg
  go_enter Tryz.func248, Tryz.ntmps248
  go_wp2_with (first
    | (refine wpList_ins (E := iKeys) rfl _ _ _ 413 409 rfl Tryz.underlying413 h00 (by unfold maxLen; simp) 0 okI0 _ rfl rfl rfl ?_; intro w1 hm1 ho1)
    | (refine wpList_ins (E := iKeys) rfl _ _ _ 413 409 rfl Tryz.underlying413 hm1 (put_small (by simp)) 1 okI1 _ rfl rfl rfl ?_; intro w2 hm2 ho2)
    | (refine wpList_ins (E := iKeys) rfl _ _ _ 413 409 rfl Tryz.underlying413 hm2 (put_small (Nat.le_trans (put_len _ _ _) (by simp))) 2 okI2 _ rfl rfl rfl ?_; intro w3 hm3 ho3
       have hlk : (Instr.lookup 413 (.map (some w.heap.size)) (.int .i64 mode) true).run Tryz.prog w3 = .ok (.tuple #[.func (.func g) #[] #[], .bool true]) w3 := by
         have hm3' : HasMap iKeys w3 w.heap.size fnL := hm3
         have h := hm3'.run_look_ok (t := 413) (e := 409) Tryz.underlying413 (zeroFn w3) HM.out
         rw [HG.out] at h
         exact h))
  refine (hfn _).mono ?_
  rintro e w4 ⟨rfl, rfl⟩
  go_wp2
  go_ret2
  have hn0 : New w (w.alloc (.map #[] 0)) := (New.refl w).alloc _
  exact ⟨rfl, New.one (New.one (New.one hn0 ho1 (Nat.le_refl _)) ho2 (Nat.le_refl _)) ho3 (Nat.le_refl _)⟩

set_option maxRecDepth 100000 in
set_option maxHeartbeats 1600000 in
theorem change_other (old mode f : Int) (h1 : old ≤ 31) (h2 : f ≤ 31) (hm : (Lit.int .i64 mode).wf = true) (hg : get fnL mode = none) (w : World) :
    Calls Tryz.prog 248 #[.int .u8 old, .int .i64 mode, .int .u8 f] w fun e w' => e = .returned (.tuple #[.int .u8 0, .bool false]) ∧ New w w' := by
  have HM := Lib.hid hm
  have HG := Lib.hid hg
  have h00 := HasMap.made iKeys w
  have hmm := @run_makeMap Tryz.prog
  have d1 : decide (31 < old) = false := decide_eq_false (by omega)
  have d2 : decide (31 < f) = false := decide_eq_false (by omega)
  clear hm hg
  go_enter Tryz.func248, Tryz.ntmps248
  go_wp2_with (first
    | (refine wpList_ins (E := iKeys) rfl _ _ _ 413 409 rfl Tryz.underlying413 h00 (by unfold maxLen; simp) 0 okI0 _ rfl rfl rfl ?_; intro w1 hm1 ho1)
    | (refine wpList_ins (E := iKeys) rfl _ _ _ 413 409 rfl Tryz.underlying413 hm1 (put_small (by simp)) 1 okI1 _ rfl rfl rfl ?_; intro w2 hm2 ho2)
    | (refine wpList_ins (E := iKeys) rfl _ _ _ 413 409 rfl Tryz.underlying413 hm2 (put_small (Nat.le_trans (put_len _ _ _) (by simp))) 2 okI2 _ rfl rfl rfl ?_; intro w3 hm3 ho3
       have hlk : (Instr.lookup 413 (.map (some w.heap.size)) (.int .i64 mode) true).run Tryz.prog w3 = .ok (.tuple #[.nilFunc, .bool false]) w3 := by
         have hm3' : HasMap iKeys w3 w.heap.size fnL := hm3
         have h := hm3'.run_look_ok (t := 413) (e := 409) Tryz.underlying413 (zeroFn w3) HM.out
         rw [HG.out] at h
         exact h))
  go_ret2
  have hn0 : New w (w.alloc (.map #[] 0)) := (New.refl w).alloc _
  exact ⟨rfl, New.one (New.one (New.one hn0 ho1 (Nat.le_refl _)) ho2 (Nat.le_refl _)) ho3 (Nat.le_refl _)⟩

set_option maxRecDepth 100000 in
set_option maxHeartbeats 1600000 in
theorem change_big (old mode f : Int) (h : 31 < old ∨ 31 < f) (w : World) :
    Calls Tryz.prog 248 #[.int .u8 old, .int .i64 mode, .int .u8 f] w fun e w' => e = .returned (.tuple #[.int .u8 0, .bool false]) ∧ New w w' := by
  by_cases h1 : 31 < old
  · clear h
    go_enter Tryz.func248, Tryz.ntmps248
    go_wp2
    go_ret2
    exact ⟨rfl, New.refl _⟩
  · have h2 : 31 < f := h.resolve_left h1
    clear h
    go_enter Tryz.func248, Tryz.ntmps248
    go_wp2
    go_ret2
    exact ⟨rfl, New.refl _⟩

theorem change_any (old mode f : Int) (ho : 0 ≤ old ∧ old ≤ 255) (hf : 0 ≤ f ∧ f ≤ 255) (hm : (Lit.int .i64 mode).wf = true) (w : World) :
    Calls Tryz.prog 248 #[.int .u8 old, .int .i64 mode, .int .u8 f] w fun e w' => e = .returned (.tuple #[.int .u8 ((chg old mode f).getD 0), .bool (chg old mode f).isSome]) ∧ New w w' := by
  by_cases h1 : 31 < old ∨ 31 < f
  · rw [show chg old mode f = none from if_pos h1]
    exact change_big old mode f h1 w
  · have hg := fnL_get mode
    have hc : chg old mode f = if mode = 0 then some f else if mode = 1 then some (orI old f) else if mode = 2 then some (andnI old f) else none := if_neg h1
    rw [hc]
    by_cases e0 : mode = 0
    · rw [if_pos e0] at hg ⊢
      exact change_at 302 f old mode f (by omega) (by omega) hm (enters _ _ _ Tryz.func302 (by kernel_rfl) rfl) (set_replace old f) hg w
    · rw [if_neg e0] at hg ⊢
      by_cases e1 : mode = 1
      · rw [if_pos e1] at hg ⊢
        exact change_at 303 (orI old f) old mode f (by omega) (by omega) hm (enters _ _ _ Tryz.func303 (by kernel_rfl) rfl) (by rw [← u8_orI ho.1 ho.2 hf.1 hf.2]; exact set_add old f) hg w
      · rw [if_neg e1] at hg ⊢
        by_cases e2 : mode = 2
        · rw [if_pos e2] at hg ⊢
          exact change_at 304 (andnI old f) old mode f (by omega) (by omega) hm (enters _ _ _ Tryz.func304 (by kernel_rfl) rfl) (by rw [← u8_andnI ho.1 ho.2 hf.1 hf.2]; exact set_remove old f) hg w
        · rw [if_neg e2] at hg ⊢
          exact change_other old mode f (by omega) (by omega) hm hg w

end Go.Proofs.YtliimglbbiebiaaGreatDoor
end

