/- Part 3 of the proof of StoreFull: TblNew, StepPut, Flag, Clos. -/
import Derived.Test.YtdbbchifkjhfcaaGStoreFullAB
import Derived.WalkKit
import Derived.WalkSpells
import Derived.WalkLawsBesides
import Derived.Deep.QuietTactic
import Derived.BigQuiet
import Derived.Lib.Hide
import Derived.Deep.RegionHeld3

section
/- A table of messages in stripes: New, Stripes, Of. -/
namespace Go.Proofs.Ytdbbchifkjhfcaa
open Go.RowKit Go.Maps

/-- A pointer to a part. -/
def ptrE : Elem Nat where
  enc q := [.pointer (some ⟨q, 0, none⟩)]
  sz := 1
  len _ := rfl
  one x u hu := by simp at hu; subst hu; rfl
  pos := Nat.one_pos

theorem ptr_info : (Try.prog.info? 59).map (fun i => (i.zero, i.size, i.bytes)) = some (some (.pointer none), 1, 8) := by kernel_rfl
theorem zeroTable (w : World) : (zeroValue 58).run Try.prog w = .ok (.agg #[.slice none 0 0]) w := by kernel_rfl

theorem HasMap.ne_blk {P : Program} {K : TypeId} {α : Type} [DecidableEq α] {E : KeyEnc P K α} {w : World} {b : Nat} {l : List (α × Value)} (h : HasMap E w b l) {g : Nat} {t : TypeId} {cs : Array Value} (hb : Blk w g t cs) : b ≠ g := by
  rintro rfl
  obtain ⟨D, ⟨es, clock, h1, _⟩, _⟩ := h.own
  unfold Blk at hb
  rw [h1] at hb
  cases hb

/-- The parts of a table as they are made. -/
structure Parts (w0 w : World) (tb : Nat) (v : Value) (qs ms : List Nat) : Prop where
  hd : Blk w tb 58 #[v]
  own : Own ptrE 59 w0.heap.size w v qs
  len : ms.length = qs.length
  part : ∀ (i q m : Nat), qs[i]? = some q → ms[i]? = some m → Blk w q 68 #[.int .i32 0, .int .u32 0, .map (some m)]
  map : ∀ m ∈ ms, HasMap uKeys w m []
  qge : ∀ q ∈ qs, w0.heap.size ≤ q
  mge : ∀ m ∈ ms, w0.heap.size ≤ m
  nq : qs.Nodup
  nm : ms.Nodup
  tbge : w0.heap.size ≤ tb
  new : New w0 w

theorem Parts.lt {w0 w : World} {tb : Nat} {v : Value} {qs ms : List Nat} (h : Parts w0 w tb v qs ms) : (∀ q ∈ qs, q < w.heap.size) ∧ ∀ m ∈ ms, m < w.heap.size := by
  refine ⟨fun q hq => ?_, fun m hm => (h.map m hm).lt⟩
  obtain ⟨i, hi⟩ := List.mem_iff_getElem?.1 hq
  have hl := (List.getElem?_eq_some_iff.1 hi).1
  exact (h.part i q _ hi (List.getElem?_eq_getElem (by rw [h.len]; exact hl))).lt

theorem nodup_snoc {l : List Nat} {n : Nat} (h : l.Nodup) (hn : ∀ x ∈ l, x < n) : (l ++ [n]).Nodup := by
  rw [List.nodup_append]
  refine ⟨h, by simp, fun a ha b hb => ?_⟩
  have := hn a ha
  simp at hb
  omega

theorem Parts.step {w0 w w2 : World} {tb : Nat} {v v2 : Value} {qs ms : List Nat} (h : Parts w0 w tb v qs ms) {cs : Array Value}
    (ho : Own ptrE 59 w0.heap.size w2 v2 (qs ++ [w.heap.size + 1]))
    (hf : Fr (fun k => v.ownBlock = some k) (((w.alloc (.map #[] 0)).alloc (.cells #[.int .i32 0, .int .u32 0, .map (some w.heap.size)] 68)).alloc (.cells cs 59)) w2) :
    Parts w0 (w2.setCell ⟨tb, 0, none⟩ v2) tb v2 (qs ++ [w.heap.size + 1]) (ms ++ [w.heap.size]) := by
  obtain ⟨hql, hml⟩ := h.lt
  have hn3 : New w (((w.alloc (.map #[] 0)).alloc (.cells #[.int .i32 0, .int .u32 0, .map (some w.heap.size)] 68)).alloc (.cells cs 59)) := (((New.refl w).alloc _).alloc _).alloc _
  have hf2 : Fr (fun k => v.ownBlock = some k) w w2 := Fr.trans' (New.to hn3) hf fun _ _ h => h
  have hf3 : Fr (fun k => v.ownBlock = some k ∨ k = tb) w (w2.setCell ⟨tb, 0, none⟩ v2) := (fr_or hf2 fun _ h => .inl h).setCell (fun _ => .inr rfl) _
  have hne : ∀ b, v.ownBlock = some b → ∀ g t cs', Blk w g t cs' → t ≠ 59 → g ≠ b := fun b hb g t cs' hg ht => by
    obtain ⟨cs2, h2⟩ := h.own.heap hb
    exact hg.ne_ h2 ht
  have hlo := fun b hb => (h.own.block (b := b) hb)
  have b2 : Blk w2 tb 58 #[v] := hf2.blk h.hd fun hs => hne _ hs _ _ _ h.hd (by decide) rfl
  have hsz := hn3.size
  have hsz' : (((w.alloc (.map #[] 0)).alloc (.cells #[.int .i32 0, .int .u32 0, .map (some w.heap.size)] 68)).alloc (.cells cs 59)).heap.size = w.heap.size + 3 := by simp
  have hns : ∀ k, w.heap.size ≤ k → ¬ v.ownBlock = some k := fun k hk hs => by have := (hlo k hs).2; omega
  have htl := h.hd.lt
  have p2 : Blk (w2.setCell ⟨tb, 0, none⟩ v2) (w.heap.size + 1) 68 #[.int .i32 0, .int .u32 0, .map (some w.heap.size)] :=
    (hf.blk ((Blk.new1 w _ _ _).alloc _) (hns _ (by omega))).far (by simp; omega) _
  have m2 : HasMap uKeys (w2.setCell ⟨tb, 0, none⟩ v2) w.heap.size [] :=
    ((((HasMap.made uKeys w).alloc _).alloc _).fr hf (hns _ (Nat.le_refl _))).setCell (by simp; omega) _
  refine ⟨b2.set_ 0 _, ?_, by simp [h.len], ?_, ?_, ?_, ?_, nodup_snoc h.nq (fun x hx => by have := hql x hx; omega), nodup_snoc h.nm hml, h.tbge, ?_⟩
  · refine ho.fr (S := fun k => k = tb) ((Fr.refl (fun k => k = tb) _).setCell (p := ⟨tb, 0, none⟩) (fun _ => rfl) _) fun b hb hs => ?_
    subst hs
    obtain ⟨cs2, h2⟩ := ho.heap hb
    exact b2.ne_ h2 (by decide) rfl
  · intro i q m hq hm
    rcases Nat.lt_or_ge i qs.length with hi | hi
    · rw [List.getElem?_append_left hi] at hq
      rw [List.getElem?_append_left (by rw [h.len]; exact hi)] at hm
      have hb := h.part i q m hq hm
      refine hf3.blk hb fun hs => ?_
      rcases hs with hs | rfl
      · exact hne _ hs _ _ _ hb (by decide) rfl
      · exact hb.ne_ h.hd (by decide) rfl
    · rw [List.getElem?_append_right hi] at hq
      rw [List.getElem?_append_right (by rw [h.len]; exact hi), h.len] at hm
      have hi0 : i - qs.length = 0 := by
        have := (List.getElem?_eq_some_iff.1 hq).1
        simp at this; omega
      rw [hi0] at hq hm
      simp at hq hm
      subst hq hm
      exact p2
  · intro m hm
    rcases List.mem_append.1 hm with hm | hm
    · have hb := h.map m hm
      refine hb.fr hf3 fun hs => ?_
      rcases hs with hs | rfl
      · obtain ⟨cs2, h2⟩ := h.own.heap hs
        exact hb.ne_blk h2 rfl
      · exact hb.ne_blk h.hd rfl
    · simp at hm
      subst hm
      exact m2
  · intro q hq
    rcases List.mem_append.1 hq with hq | hq
    · exact h.qge q hq
    · have := h.new.size
      simp at hq
      omega
  · intro m hm
    rcases List.mem_append.1 hm with hm | hm
    · exact h.mge m hm
    · have := h.new.size
      simp at hm
      omega
  · exact New.two h.new hf3 fun i hi => by
      rcases hi with hi | rfl
      · exact (hlo i hi).1
      · exact h.tbge

theorem ent_nil (n i : Nat) : ent n i [] = [] := rfl

theorem Parts.table {w0 w : World} {tb : Nat} {v : Value} {qs ms : List Nat} (h : Parts w0 w tb v qs ms) (h0 : 0 < qs.length) (h1 : qs.length ≤ 16) :
    ∃ T : Tb, T.tb = tb ∧ T.n = qs.length ∧ T.lo = w0.heap.size ∧ T.hi = w.heap.size ∧ TBX w.heap.size w T [] := by
  obtain ⟨hql, hml⟩ := h.lt
  obtain ⟨A, c, hv, hc⟩ := h.own.form
  obtain ⟨g, rfl⟩ : ∃ g, A = some ⟨g, 0, none⟩ := by
    have h2 := h.own
    rw [hv] at h2
    exact h2.some_ h0
  have hgb : v.ownBlock = some g := by rw [hv]; rfl
  obtain ⟨cs, hcs⟩ := h.own.heap hgb
  have hgl := h.own.block hgb
  have hq : ∀ i, i < qs.length → ∃ q m, qs[i]? = some q ∧ ms[i]? = some m ∧ qs.getD i 0 = q ∧ ms.getD i 0 = m := fun i hi => by
    refine ⟨qs[i], ms[i]'(by rw [h.len]; exact hi), List.getElem?_eq_getElem hi, List.getElem?_eq_getElem _, ?_, ?_⟩
    · simp [List.getD, List.getElem?_eq_getElem hi]
    · simp [List.getD, List.getElem?_eq_getElem (show i < ms.length by rw [h.len]; exact hi)]
  refine ⟨⟨tb, g, c, qs.length, fun i => qs.getD i 0, fun i => ms.getD i 0, w0.heap.size, w.heap.size⟩, rfl, rfl, rfl, rfl, ⟨hv ▸ h.hd, h0, h1, hc, ⟨cs, hcs, fun i hi => ?_⟩, fun i hi => ?_, fun i hi => ?_, by simp, by simp, by simp, fun i j hi hj => ?_, fun i j hi hj => ?_, ⟨h.tbge, h.hd.lt⟩, hgl, fun i hi => ?_, fun i hi => ?_, Nat.le_refl _⟩⟩
  · obtain ⟨q, m, e1, e2, e3, e4⟩ := hq i hi
    have h2 := h.own
    rw [hv] at h2
    have h3 := h2.cell_at e1 (j := 0) (u := .pointer (some ⟨q, 0, none⟩)) rfl
    rw [hcs.cell] at h3
    show cs[i]? = some (.pointer (some ⟨qs.getD i 0, 0, none⟩))
    rw [e3, ← h3]
    simp [ptrE]
  · obtain ⟨q, m, e1, e2, e3, e4⟩ := hq i hi
    simp only [e3, e4]
    exact h.part i q m e1 e2
  · obtain ⟨q, m, e1, e2, e3, e4⟩ := hq i hi
    simp only [e4, ent_nil]
    exact h.map m (List.mem_iff_getElem?.2 ⟨i, e2⟩)
  · obtain ⟨q, m, e1, e2, e3, e4⟩ := hq i hi
    obtain ⟨q', m', e1', e2', e3', e4'⟩ := hq j hj
    simp only [e3, e3']
    rintro rfl
    exact (List.getElem?_inj hi h.nq).1 (e1.trans e1'.symm)
  · obtain ⟨q, m, e1, e2, e3, e4⟩ := hq i hi
    obtain ⟨q', m', e1', e2', e3', e4'⟩ := hq j hj
    simp only [e4, e4']
    rintro rfl
    exact (List.getElem?_inj (by rw [h.len]; exact hi) h.nm).1 (e2.trans e2'.symm)
  · obtain ⟨q, m, e1, e2, e3, e4⟩ := hq i hi
    have h5 : q ∈ qs := List.mem_iff_getElem?.2 ⟨i, e1⟩
    show w0.heap.size ≤ qs.getD i 0 ∧ qs.getD i 0 < w.heap.size
    rw [e3]
    exact ⟨h.qge q h5, hql q h5⟩
  · obtain ⟨q, m, e1, e2, e3, e4⟩ := hq i hi
    have h5 : m ∈ ms := List.mem_iff_getElem?.2 ⟨i, e2⟩
    show w0.heap.size ≤ ms.getD i 0 ∧ ms.getD i 0 < w.heap.size
    rw [e4]
    exact ⟨h.mge m h5, hml m h5⟩

set_option maxHeartbeats 800000 in
theorem tnew_none (n : Int) (hn : n < 1 ∨ 16 < n) (w : World) : Calls Try.prog 9 #[.int .i64 n] w fun e w' => e = .returned (.pointer none) ∧ New w w' := by
  rcases Int.lt_or_le n 1 with h1 | h1
  · have hd : decide (n < 1) = true := decide_eq_true h1
    clear hn
    go_enter Try.func9, Try.ntmps9
    go_wp2
    go_ret
    exact ⟨rfl, New.refl _⟩
  · have hd : decide (n < 1) = false := decide_eq_false (by omega)
    have hd2 : decide (16 < n) = true := decide_eq_true (by omega)
    clear hn
    go_enter Try.func9, Try.ntmps9
    go_wp2
    go_ret
    exact ⟨rfl, New.refl _⟩

set_option maxRecDepth 100000 in
set_option maxHeartbeats 3200000 in
theorem tnew_any (n : Nat) (h0 : 0 < n) (h1 : n ≤ 16) (w : World) :
    Calls Try.prog 9 #[.int .i64 n] w fun e w' => ∃ T : Tb, e = .returned (.pointer (some ⟨T.tb, 0, none⟩)) ∧ T.n = n ∧ T.lo = w.heap.size ∧ T.hi = w'.heap.size ∧ TBX w'.heap.size w' T [] ∧ New w w' := by
  have hd : decide ((n : Int) < 1) = false := decide_eq_false (by omega)
  have hd2 : decide ((16 : Int) < n) = false := decide_eq_false (by omega)
  obtain ⟨i0, hi, hz0, hz1, hz2⟩ := info_parts ptr_info
  have hmm := @run_makeMap Try.prog
  go_enter Try.func9, Try.ntmps9
  go_wp2
  go_loopw [13] (fun vi wr => ∃ (k : Nat) (v : Value) (qs ms : List Nat), vi = .int .i64 k ∧ k ≤ n ∧ qs.length = k ∧ Parts w wr w.heap.size v qs ms) (fun vi _ => n - (intOf vi).toNat)
  case atStart => exact ⟨0, .slice none 0 0, [], [], rfl, Nat.zero_le _, rfl, ⟨Blk.new _ _ _, Own.nil _ _ _ _, rfl, by simp, by simp, by simp, by simp, by simp, by simp, Nat.le_refl _, (New.refl w).alloc _⟩⟩
  case round =>
    obtain ⟨k, v, qs, ms, rfl, hk, hql, HP⟩ := hrel
    by_cases hlt : k < n
    · have hd3 : decide ((k : Int) < n) = true := decide_eq_true (by omega)
      have hkw : IntKind.i64.wrap ((k : Int) + 1) = (k : Int) + 1 := IntWalk.i64_in _ (by omega)
      have c0 := HP.hd.cell 0
      have f0 := HP.hd.frozen 0
      have hsz := HP.new.size
      have htl := HP.hd.lt
      have hO := ((HP.own.alloc (.map #[] 0)).alloc (.cells #[.int .i32 0, .int .u32 0, .map (some wr.heap.size)] 68)).alloc (.cells #[.pointer (some ⟨wr.heap.size + 1, 0, none⟩)] 59)
      have hn3 : New wr (((wr.alloc (.map #[] 0)).alloc (.cells #[.int .i32 0, .int .u32 0, .map (some wr.heap.size)] 68)).alloc (.cells #[.pointer (some ⟨wr.heap.size + 1, 0, none⟩)] 59)) := (((New.refl wr).alloc _).alloc _).alloc _
      have hb3 := Blk.new2 wr (.map #[] 0) (.cells #[.int .i32 0, .int .u32 0, .map (some wr.heap.size)] 68) 59 #[.pointer (some ⟨wr.heap.size + 1, 0, none⟩)]
      have hs3 : (((wr.alloc (.map #[] 0)).alloc (.cells #[.int .i32 0, .int .u32 0, .map (some wr.heap.size)] 68)).alloc (.cells #[.pointer (some ⟨wr.heap.size + 1, 0, none⟩)] 59)).heap.size = wr.heap.size + 3 := by simp
      obtain ⟨A, N, C, rfl⟩ := own_shape HP.own
      have hvb := fun b hb => HP.own.heap (g := b) hb
      go_wp2_with (first
        | (at_builtin; refine wpList_push (E := ptrE) rfl _ _ _ rfl Try.underlying56 hi hz0 hz1 hz2 rfl hO rfl (wr.heap.size + 1) (wr.heap.size + 2) hb3 1 rfl (by unfold maxLen; omega) (by omega) (by omega) ?_; intro v2 w2 hv2 hf2 hl2
           obtain ⟨A2, N2, C2, rfl⟩ := own_shape hv2
           have hb2 : Blk w2 w.heap.size 58 #[.slice A N C] := (fr_or hf2 fun _ h => h).blk (hn3.blk HP.hd) (fun hs => by obtain ⟨cs2, h2⟩ := hvb _ hs; exact HP.hd.ne_ h2 (by decide) rfl)
           have d0 := hb2.cell 0
           have g0 := hb2.frozen 0)
        | fail)
      go_roundw
      case rel => exact ⟨k + 1, _, _, _, by go_num, by omega, by simp; omega, HP.step hv2 hf2⟩
      case measure => simp [intOf]; omega
    · have hd3 : decide ((k : Int) < n) = false := decide_eq_false (by omega)
      obtain ⟨T, e1, e2, e3, e4, e5⟩ := HP.table (by omega) (by omega)
      go_wp2
      go_ret
      exact ⟨T, by first | (rw [e1]; done) | (simp only [e1]; done) | simp [e1], by omega, e3, e4, e5, HP.new⟩

set_option maxHeartbeats 400000 in
theorem tof_nil (k : Int) (w : World) : Calls Try.prog 40 #[.pointer none, .int .u32 k] w fun e w' => e = .returned (.int .i64 0) ∧ w' = w := by
  go_enter Try.func40, Try.ntmps40
  go_wp2
  go_ret
  exact ⟨rfl, rfl⟩

set_option maxHeartbeats 800000 in
theorem tof_any {base : Nat} {w : World} {T : Tb} {X : List MB} (h : TBX base w T X) (k : Int) (h0 : 0 ≤ k) (_h1 : k ≤ 4294967295) : Calls Try.prog 40 #[.pointer (some ⟨T.tb, 0, none⟩), .int .u32 k] w fun e w' => e = .returned (.int .i64 (k % T.n)) ∧ w' = w := by
  have c0 := h.hd.cell 0
  have e1 := h.n0
  have e2 := h.n1
  have hw : IntKind.u32.wrap (T.n : Int) = T.n := by simp [IntKind.wrap_u32]; omega
  have hmod : Int.tmod k (T.n : Int) = k % T.n := Int.tmod_eq_emod_of_nonneg h0
  have hm0 : 0 ≤ k % (T.n : Int) := Int.emod_nonneg _ (by omega)
  have hm1 : k % (T.n : Int) < T.n := Int.emod_lt_of_pos _ (by omega)
  have hw2 : IntKind.i64.wrap (k % (T.n : Int)) = k % T.n := IntWalk.i64_in _ (by omega)
  have hw3 : IntKind.u32.wrap (k % (T.n : Int)) = k % T.n := by simp [IntKind.wrap_u32]; omega
  have hz : ((T.n : Int) == 0) = false := by simp; omega
  have hz' : (T.n : Int) ≠ 0 := by omega
  go_enter Try.func40, Try.ntmps40
  go_wp2
  go_ret
  exact ⟨rfl, rfl⟩

end Go.Proofs.Ytdbbchifkjhfcaa
end

section
/- A store into a map as a step of a region that draws its order. Plain lemmas; of no program. -/
namespace Go.Proofs.Ytdbbchifkjhfcaa
open Go.RowKit Go.Maps

section
variable {P : Program} {K : TypeId} {α : Type} [DecidableEq α] {E : KeyEnc P K α} {w : World} {b : Nat} {l : List (α × Value)}
variable {ops : Array Oper} {rest : List Oper} {o : Oper} {a : Act} {Q : Exit → Act → World → Prop} {C : Act → World → Prop}

theorem step_put {F : Prop} (hg : o.guard = none) (m x v : Operand) (t e : TypeId) (hop : o.op = Op.mapUpdate t m x v) (ht : P.underlying t = some (.map K e))
    (h : HasMap E w b l) (hn : l.length < maxLen) (k : α) (hk : E.ok k) (u : Value) (hm : a.eval m = .map (some b)) (hx : a.eval x = E.kv k) (hv : a.eval v = u)
    (hK : ∀ w', HasMap E w' b (put l k u) → One b w w' → C (a.put o.dst undef) w') :
    if Region.wanted o (yielded ops a.tmps) = true then Oper.wp P o a w C Q else F := by
  have hw : Region.wanted o (yielded ops a.tmps) = true := by simp [Region.wanted, hg]
  rw [if_pos hw]
  obtain ⟨w', hr, h1, h2⟩ := h.run_put ht hn hk u
  unfold Oper.wp
  simp [execOp, hop, hm, hx, hv, hr, Result.andThen]
  exact hK w' h1 h2
end

end Go.Proofs.Ytdbbchifkjhfcaa
end

section
/- flag.Change: the flags behind a change, over a map of three functions; the reference's Change. -/
namespace Go.Proofs.Ytdbbchifkjhfcaa
open Go.RowKit Go.Maps

section
variable {P : Program} {K : TypeId} {α : Type} [DecidableEq α] {E : KeyEnc P K α} {w : World} {b : Nat} {l : List (α × Value)}
variable {ops : Array Oper} {rest : List Oper} {o : Oper} {a : Act} {Q : Exit → Act → World → Prop}
/-- An entry of a map literal. -/
theorem wpList_ins (hg : o.guard = none) (m x v : Operand) (t e : TypeId) (hop : o.op = Op.insert t m x v) (ht : P.underlying t = some (.map K e))
    (h : HasMap E w b l) (hn : l.length < maxLen) (k : α) (hk : E.ok k) (u : Value) (hm : a.eval m = .map (some b)) (hx : a.eval x = E.kv k) (hv : a.eval v = u)
    (hK : ∀ w', HasMap E w' b (put l k u) → One b w w' → wpList P ops Q rest (a.put o.dst undef) w') : wpList P ops Q (o :: rest) a w := by
  refine wpList_plain hg fun K' hK' => ?_
  obtain ⟨w', hr, h1, h2⟩ := h.run_put ht hn hk u
  unfold Oper.wp
  simp [execOp, hop, hm, hx, hv, hr, Result.andThen]
  exact hK' _ _ (hK w' h1 h2)
end

abbrev iKeys : KeyEnc Try.prog 3 Int := intKeys Try.underlying3

theorem put_len {α : Type} [DecidableEq α] (l : List (α × Value)) (k : α) (v : Value) : (put l k v).length ≤ l.length + 1 := by
  unfold put del
  rw [List.length_cons]
  have := List.length_filter_le (fun p : α × Value => decide (p.1 ≠ k)) l
  omega
theorem put_small {α : Type} [DecidableEq α] {l : List (α × Value)} {k : α} {v : Value} (h : l.length ≤ 1000000) : (put l k v).length < maxLen := by
  have := put_len l k v
  unfold maxLen
  omega
theorem okI0 : iKeys.ok 0 := by show (Lit.int .i64 0).wf = true; decide
theorem okI1 : iKeys.ok 1 := by show (Lit.int .i64 1).wf = true; decide
theorem okI2 : iKeys.ok 2 := by show (Lit.int .i64 2).wf = true; decide

end Go.Proofs.Ytdbbchifkjhfcaa
end

section
/- The functions that a table hands to its stripes: put, get, remove, change of flags. -/
namespace Go.Proofs.Ytdbbchifkjhfcaa
open Go.RowKit Go.Maps

theorem okU {k : Int} (h0 : 0 ≤ k) (h1 : k ≤ 4294967295) : uKeys.ok k := by
  show (Lit.int .u32 k).wf = true
  have h2 : IntKind.u32.min ≤ k := by rw [show IntKind.u32.min = 0 from rfl]; exact h0
  have h3 : k ≤ IntKind.u32.max := by rw [show IntKind.u32.max = 4294967295 from rfl]; exact h1
  simp [Lit.wf, h2, h3]

set_option maxRecDepth 100000 in
set_option maxHeartbeats 1600000 in
/-- Put's: the identifier is there. -/
theorem put1_has {w : World} {mb g eb : Nat} {l : List (Int × Value)} {x y : MB} (h : HasMap uKeys w mb l) (hk : uKeys.ok x.m.uid) (hg : Blk w g 95 #[.int .u32 x.m.uid, .int .u8 x.m.fl, x.bv]) (he : Blk w eb 25 #[.int .i64 0])
    (hl : get l x.m.uid = some y.val) :
    Calls Try.prog 42 #[.map (some mb), .pointer (some ⟨g, 0, none⟩), .pointer (some ⟨eb, 0, none⟩)] w fun e w' => e = .returned (.tuple #[]) ∧ (Blk w' eb 25 #[.int .i64 8] ∧ One eb w w') := by
  obtain ⟨⟨uid, fl, body⟩, A, n, c⟩ := x
  obtain ⟨⟨uid', fl', body'⟩, A', n', c'⟩ := y
  simp only [MB.bv, MB.val] at hg hl hk ⊢
  have hlk := h.run_look_ok (t := 60) (e := 95) Try.underlying60 (zeroMsg w) hk
  rw [hl] at hlk
  simp only [Option.getD_some, Option.isSome_some] at hlk
  change (Instr.lookup 60 (.map (some mb)) (.int .u32 uid) true).run Try.prog w = _ at hlk
  have c0 : w.cell? ⟨g, 0, none⟩ = some (.int .u32 uid) := hg.cell 0
  have hel := he.lt
  have e1 := fun cs => (Blk.alloc he (.cells cs 95))
  have ec := fun cs => (e1 cs).cell 0
  have ef := fun cs => (e1 cs).frozen 0
  clear hl
  go_enter Try.func42, Try.ntmps42
  go_wp2
  first | go_end0 | (simp only [Exit.inBlock, Exit.then]; refine bodyPost_ret (results_none rfl _ _ _) rfl ?_) | refine bodyPost_ret (results_none rfl _ _ _) rfl ?_
  exact ⟨rfl, (he.set_ 0 _).alloc _, ((One.refl _ _).set 0 _).alloc _⟩

set_option maxRecDepth 100000 in
set_option maxHeartbeats 3200000 in
/-- Put's: it is not: a message with a body of its own is laid there. -/
theorem put1_new {w : World} {mb g eb : Nat} {l : List (Int × Value)} {x : MB} (h : HasMap uKeys w mb l) (hk : uKeys.ok x.m.uid) (hln : l.length < maxLen) (hg : Blk w g 95 #[.int .u32 x.m.uid, .int .u8 x.m.fl, x.bv]) (_he : Blk w eb 25 #[.int .i64 0])
    (hb : Rd (intE .u8) w x.bv x.m.body) (hbl : x.m.body.length ≤ 100000) (hl : get l x.m.uid = none) :
    Calls Try.prog 42 #[.map (some mb), .pointer (some ⟨g, 0, none⟩), .pointer (some ⟨eb, 0, none⟩)] w fun e w' => e = .returned (.tuple #[]) ∧ ∃ y : MB, y.m = x.m ∧ HasMap uKeys w' mb (put l x.m.uid y.val) ∧ Own (intE .u8) 5 w.heap.size w' y.bv y.m.body ∧ One mb w w' := by
  have hlk := h.run_look_ok (t := 60) (e := 95) Try.underlying60 (zeroMsg w) hk
  rw [hl] at hlk
  simp only [Option.getD_none, Option.isSome_none] at hlk
  have HB := Lib.hid hb
  have HG := Lib.hid hg
  obtain ⟨x, rfl⟩ : ∃ x', x' = x := ⟨_, rfl⟩
  have hm := hg.cell
  obtain ⟨⟨uid, fl, body⟩, A, n, c⟩ := x
  simp only [MB.bv] at hg hlk ⊢
  change (Instr.lookup 60 (.map (some mb)) (.int .u32 uid) true).run Try.prog w = _ at hlk
  have hgl := hg.lt
  have hn1 : New w (w.alloc (.cells #[.int .u32 0, .int .u8 0, .slice none 0 0] 95)) := (New.refl w).alloc _
  have g1 := hn1.blk hg
  have c0 : w.cell? ⟨g, 0, none⟩ = some (.int .u32 uid) := hg.cell 0
  have H1 := Lib.hid (h.fr hn1 id)
  have HB1 := Lib.hid (HB.out.new hn1)
  have hgm : g ≠ mb := Ne.symm (h.ne_blk hg)
  have hmlt := h.lt
  clear hl hb hm h
  obtain ⟨wq, hwq⟩ : ∃ wq, wq = w.alloc (.cells #[.int .u32 0, .int .u8 0, .slice none 0 0] 95) := ⟨_, rfl⟩
  have hwqs : wq.heap.size = w.heap.size + 1 := by rw [hwq]; simp
  have q0 : wq.cell? ⟨g, 0, none⟩ = some (.int .u32 uid) := by rw [hwq]; exact g1.cell 0
  have q1 : wq.cell? ⟨g, 1, none⟩ = some (.int .u8 fl) := by rw [hwq]; exact g1.cell 1
  have q2 : wq.cell? ⟨g, 2, none⟩ = some (.slice A n c) := by rw [hwq]; exact g1.cell 2
  go_enter Try.func42, Try.ntmps42
  go_wp2_with fail
  rw [← hwq] at H1 HB1 hn1 ⊢
  clear hwq g1 c0 hlk
  go_region_held3 (fun w' => w'.cell? ⟨g, 0, none⟩ = some (.int .u32 uid) ∧ w'.cell? ⟨g, 1, none⟩ = some (.int .u8 fl) ∧ w'.cell? ⟨g, 2, none⟩ = some (.slice A n c)) (first | go_keep | (refine ⟨?_, ?_, ?_⟩ <;> assumption))
    ((first
      | (go_at_call 43
         refine (mclone_any ⟨⟨uid, fl, body⟩, A, n, c⟩ _ (HB1.out.new ?nw) hbl).mono ?_
         case nw => repeat' first | exact New.refl _ | apply Fr.drewN | apply Fr.drew
         rintro e w3 ⟨y, rfl, hy, hoy, hn3⟩
         have hnq : New wq w3 := Fr.trans (by repeat' first | exact New.refl _ | apply Fr.drewN | apply Fr.drew) hn3
         have d0 : w3.cell? ⟨g, 0, none⟩ = some (.int .u32 uid) := Fr.cell hnq q0 id
         have d1 : w3.cell? ⟨g, 1, none⟩ = some (.int .u8 fl) := Fr.cell hnq q1 id
         have d2 : w3.cell? ⟨g, 2, none⟩ = some (.slice A n c) := Fr.cell hnq q2 id
         obtain ⟨w4, hr4, hm4, ho4⟩ := (H1.out.fr hnq id).run_put (t := 60) (e := 95) Try.underlying60 hln hk y.val
         change (Instr.mapUpdate 60 (.map (some mb)) (.int .u32 uid) y.val).run Try.prog w3 = _ at hr4
         have f0 : w4.cell? ⟨g, 0, none⟩ = some (.int .u32 uid) := Fr.cell ho4 d0 hgm
         have f1 : w4.cell? ⟨g, 1, none⟩ = some (.int .u8 fl) := Fr.cell ho4 d1 hgm
         have f2 : w4.cell? ⟨g, 2, none⟩ = some (.slice A n c) := Fr.cell ho4 d2 hgm)
      | fail))
  go_wp2
  first | go_end0 | (simp only [Exit.inBlock, Exit.then]; refine bodyPost_ret (results_none rfl _ _ _) rfl ?_) | refine bodyPost_ret (results_none rfl _ _ _) rfl ?_
  have hlo := hn1.size
  refine ⟨rfl, y, hy, hm4, (hoy.fr ho4 fun b hb hs => ?_).mono (by simpa using hlo), Fr.trans (New.to (hn1.trans hnq)) ho4⟩
  have h1 := (hoy.block hb).1
  have h2 : wq.drew.heap.size = wq.heap.size := rfl
  subst hs
  omega

/-- The message that no identifier has. -/
def mb0 : MB := ⟨msg0, none, 0, 0⟩

end Go.Proofs.Ytdbbchifkjhfcaa
end

