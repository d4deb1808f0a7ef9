/- A part of the proof: Exec2, Exec3, Exec4, Full1, Full2, Full3. -/
import Derived.Test.YtliimglbbiebiaaGreatDoorGTopFullAQ
import Derived.Shelf.Abstract
import Derived.Test.YtliimglbbiebiaaGreatDoorGTopFullAO
import Derived.Test.YtliimglbbiebiaaGreatDoorGTopFullAP

section
/- exec.State.Do over its operation's contract; noop without a view. -/
namespace Go.Proofs.YtliimglbbiebiaaGreatDoor
open Go.RowKit Go.Maps

/-- A command. -/
structure Cmd where
  t : ByteArray
  k : Int
  m : ByteArray
  sA : Option Addr
  sn : Nat
  sc : Nat
  it : Int
  mo : Int
  si : Bool
  fl : Int
  dA : Option Addr
  dn : Nat
  dc : Nat
abbrev Cmd.val (c : Cmd) : Value := .agg #[.string c.t, .int .i64 c.k, .string c.m, .slice c.sA c.sn c.sc, .int .i64 c.it, .int .i64 c.mo, .bool c.si, .int .u8 c.fl, .slice c.dA c.dn c.dc]
theorem loadOut {w : World} {g : Nat} {a b : Value} (h : Blk w g 108 #[a, b]) : (loadVar 108 ⟨g, 0, none⟩).run Tryz.prog w = .ok (.agg #[a, b]) w :=
  run_loadVar_row w g _ _ _ _ _ h Tryz.underlying108 rfl (by kernel_rfl)
def noopS : ByteArray := ⟨#[78, 79, 79, 80, 32, 99, 111, 109, 112, 108, 101, 116, 101, 100]⟩
abbrev addV (OB : Nat) : Value := .func (.func 39) #[] #[.pointer (some ⟨OB, 0, none⟩)]

set_option maxHeartbeats 1600000 in
theorem noop_none (x OB base : Nat) (bx : Value) (id : Int) (dn : Bool) (c : Cmd) (w : World) (hx : Ses w x bx id none dn) (hb : Blk w OB 50 #[.slice none 0 0]) (hbase : base ≤ w.heap.size) :
    Calls Tryz.prog 65 #[.pointer (some ⟨x, 0, none⟩), c.val, addV OB] w fun e w' => e = .returned (.agg #[.int .i64 0, .string noopS]) ∧ ∃ v, Blk w' OB 50 #[v] ∧ Own rspE 53 base w' v [] ∧ Fr (fun k => k = OB) w w' := by
  obtain ⟨w0, hw0⟩ : ∃ w0, w0 = (w.alloc (.cells #[.string c.t, .int .i64 c.k, .string c.m, .slice c.sA c.sn c.sc, .int .i64 c.it, .int .i64 c.mo, .bool c.si, .int .u8 c.fl, .slice c.dA c.dn c.dc] 47)).alloc (.cells #[.int .i64 0, .string ⟨#[]⟩] 108) := ⟨_, rfl⟩
  have n0 : New w w0 := hw0 ▸ ((New.refl w).alloc _).alloc _
  have r0 : Blk w0 (w.heap.size + 1) 108 #[.int .i64 0, .string ⟨#[]⟩] := hw0 ▸ Blk.new1 _ _ _ _
  have hx0 := n0.blk hx
  have hb0 := n0.blk hb
  have s0 := n0.size
  have hbl := hb.lt
  go_enter Tryz.func65, Tryz.ntmps65
  go_wp2_with fail
  rw [← hw0]
  clear hw0
  refine (flush_none x bx id dn true w0 hx0).mono ?_
  rintro e w1 ⟨rfl, rfl⟩
  go_wp2_with fail
  refine (add_rsp OB base (.slice none 0 0) (.slice none 0 0) [] [] w1 hb0 (Own.nil _ _ _ _) (Rd.nil _ _) (by simp) (by omega)).mono ?_
  rintro e w2 ⟨rfl, v, hb2, ho2, hf2, _⟩
  have hf2' : Fr (fun k => k = OB) w1 w2 := hf2.mono fun k _ hk => by rcases hk with hk | hk; exact hk; cases hk
  have r2 := Fr.blk hf2' r0 (by omega)
  obtain ⟨q0, q1⟩ := r2.all2
  have f2 := r2.froz
  go_wp2
  have hR := r2.over2 (.int .i64 0) (.string noopS)
  refine bodyPost_ret (results_cell1 rfl _ _ rfl (loadOut hR)) rfl ⟨rfl, v, (hb2.far (p := ⟨w.heap.size + 1, 0, none⟩) (by show OB ≠ w.heap.size + 1; omega) _).far (p := ⟨w.heap.size + 1, 1, none⟩) (by show OB ≠ w.heap.size + 1; omega) _, ?_, ?_⟩
  · refine ho2.fr (One.over2 w2 (w.heap.size + 1) _ _) fun g hg e => ?_
    have e : g = w.heap.size + 1 := e
    exact ho2.blk_ne r2 (by decide) (by rw [← e]; exact hg)
  · exact Fr.setCell (Fr.setCell (Fr.trans' (n0.mono fun _ _ h => h.elim) hf2' fun _ _ h => h) (p := ⟨w.heap.size + 1, 0, none⟩) (fun h => absurd h (by simp)) _) (p := ⟨w.heap.size + 1, 1, none⟩) (fun h => absurd h (by simp)) _
end Go.Proofs.YtliimglbbiebiaaGreatDoor
end

section
/- exec.State.Do over its operation's contract. -/
namespace Go.Proofs.YtliimglbbiebiaaGreatDoor
open Go.RowKit Go.Maps

theorem zeroOp (w : World) : (zeroValue 103).run Tryz.prog w = .ok (.agg #[.nilFunc, .bool false]) w := by kernel_rfl
theorem rd_one' {α : Type} {E : Elem α} {w : World} {g : Nat} {t : TypeId} {x : α} (h : Blk w g t (E.enc x).toArray) : Rd E w (.slice (some ⟨g, 0, none⟩) 1 1) [x] := by
  refine ⟨_, 1, rfl, Nat.le_refl _, fun _ => ⟨g, 0, rfl, fun i y hy j u hu => ?_⟩⟩
  have hi : i = 0 := by
    rcases i with _ | i
    · rfl
    · simp at hy
  subst hi
  obtain rfl : x = y := by simpa using hy
  have := h.cell j
  rw [Nat.zero_mul, Nat.zero_add, Nat.zero_add]
  rw [this]
  simpa using hu

theorem ops_get (k : Int) (f : Nat) (sel : Bool) (hop : get opsL k = some (opV f sel)) (hok : iKeys.ok k) (W : World) : Calls Tryz.prog 40 #[] W fun e w2 => ∃ m, e = .returned (.map (some m)) ∧ New W w2 ∧
    (Instr.lookup 104 (.map (some m)) (.int .i64 k) false).run Tryz.prog w2 = .ok (.agg #[.func (.func f) #[] #[], .bool sel]) w2 ∧ ∀ o, (Instr.lookup 104 (.map (some m)) (.int .i64 k) false).run Tryz.prog (w2.alloc o) = .ok (.agg #[.func (.func f) #[] #[], .bool sel]) (w2.alloc o) := by
  refine (operations_any W).mono ?_
  rintro e w2 ⟨rfl, hM2, m2⟩
  refine ⟨_, rfl, m2, ?_, fun o => ?_⟩
  · have hl := hM2.run_look (t := 104) (e := 103) Tryz.underlying104 (zeroOp w2) hok
    rw [hop] at hl
    exact hl
  · have hl := (hM2.alloc o).run_look (t := 104) (e := 103) Tryz.underlying104 (zeroOp _) hok
    rw [hop] at hl
    exact hl

set_option maxRecDepth 100000 in
set_option maxHeartbeats 3200000 in
theorem xdo_any (x : Nat) (bx : Value) (id : Int) (pv : Option Addr) (c : Cmd) (f : Nat) (sel : Bool) (S : Nat → Prop) (X : Int → ByteArray → List Rsp → World → Prop) (w : World)
    (hE : ∀ args w, (callFunc f args).run Tryz.prog w = .ok (.enter f args) w)
    (hx : Ses w x bx id pv false) (hop : get opsL c.k = some (opV f sel)) (hok : iKeys.ok c.k) (hsel : sel = true → pv ≠ none)
    (hV : ∀ W, New w W → Calls Tryz.prog 38 #[c.val] W fun e W' => e = .returned (.bool true) ∧ New W W')
    (hf : ∀ OB W, New w W → w.heap.size ≤ OB → Blk W OB 50 #[.slice none 0 0] → Calls Tryz.prog f #[.pointer (some ⟨x, 0, none⟩), c.val, addV OB] W fun e W' => ∃ st tx v l, e = .returned (.agg #[.int .i64 st, .string tx]) ∧ Blk W' OB 50 #[v] ∧ Own rspE 53 w.heap.size W' v l ∧ l.length ≤ 50000 ∧ Fr (fun k => k = OB ∨ S k) W W' ∧ X st tx l W')
    (hS : ∀ k, S k → k < w.heap.size)
    (hX : ∀ st tx l v A B, X st tx l A → Own rspE 53 w.heap.size A v l → Fr (fun k => v.ownBlock = some k) A B → X st tx l B) :
    Calls Tryz.prog 17 #[.pointer (some ⟨x, 0, none⟩), c.val] w fun e w' => ∃ st tx v l, e = .returned v ∧ Own rspE 53 w.heap.size w' v (l ++ [repR c.t st tx]) ∧ Fr S w w' ∧ X st tx l w' := by
  obtain ⟨i0, hi, hz0, hz1, hz2⟩ := info_parts rsp_info
  have hmf : ∀ (fn : Fn) (first cap : Array Value) (w : World), (Instr.makeFunc fn first cap).run Tryz.prog w = .ok (.func fn first cap) w := fun _ _ _ _ => rfl
  obtain ⟨w0, hw0⟩ : ∃ w0, w0 = w.alloc (.cells #[.string c.t, .int .i64 c.k, .string c.m, .slice c.sA c.sn c.sc, .int .i64 c.it, .int .i64 c.mo, .bool c.si, .int .u8 c.fl, .slice c.dA c.dn c.dc] 47) := ⟨_, rfl⟩
  have n0 : New w w0 := hw0 ▸ (New.refl w).alloc _
  have b0 : Blk w0 w.heap.size 47 #[.string c.t, .int .i64 c.k, .string c.m, .slice c.sA c.sn c.sc, .int .i64 c.it, .int .i64 c.mo, .bool c.si, .int .u8 c.fl, .slice c.dA c.dn c.dc] := hw0 ▸ Blk.new _ _ _
  have hx0 := n0.blk hx
  obtain ⟨x0, x1, x2, x3⟩ := hx0.all4
  obtain ⟨k0, k1, k2, k3, k4, k5, k6, k7, k8⟩ := b0.all9
  have HF := Lib.hid hf
  have HX := Lib.hid hX
  have HS := Lib.hid hS
  have HV := Lib.hid hV
  have HSEL := Lib.hid hsel
  have HG := ops_get c.k f sel hop hok
  clear hf hX hS hV hsel hop
  subst hw0
  go_enter Tryz.func17, Tryz.ntmps17
  go_wp2_with fail
  refine (HV.out _ n0).mono ?_
  rintro e w1 ⟨rfl, m1⟩
  have n1 := n0.trans m1
  have b1 := m1.blk b0
  have hx1 := m1.blk hx0
  have l1 := b1.lt
  clear k0 k1 k2 k3 k4 k5 k6 k7 k8 x0 x1 x2 x3 b0 hx0 n0 m1
  go_wp2_with fail
  have nA := n1.alloc (.cells #[.slice none 0 0] 50)
  have bA := b1.alloc (.cells #[.slice none 0 0] 50)
  have hxA := hx1.alloc (.cells #[.slice none 0 0] 50)
  have oA := Blk.new w1 50 #[.slice none 0 0]
  have sA : (w1.alloc (.cells #[.slice none 0 0] 50)).heap.size = w1.heap.size + 1 := by rw [World.size_alloc]
  generalize (w1.alloc (.cells #[.slice none 0 0] 50)) = wA at *
  generalize w1.heap.size = OB at *
  clear b1 hx1 n1 w1
  have kA : wA.cell? ⟨w.heap.size, 1, none⟩ = some (.int .i64 c.k) := bA.cell 1
  have hlA : w.heap.size < wA.heap.size := by omega
  have HSA := Lib.hid sA
  clear sA
  go_region_held3 (fun W => W.cell? ⟨w.heap.size, 1, none⟩ = some (.int .i64 c.k)) (first | go_keep | assumption | exact S0 _ _) ((first
    | (go_at_call 40
       refine (HG _).mono ?_
       rintro e w2 ⟨m, rfl, m2, hl, hl'⟩
       have hnq : New wA w2 := Fr.trans (by repeat' first | exact New.refl _ | apply Fr.alloc | apply Fr.drewN | apply Fr.drew) m2
       have c2 : w2.cell? ⟨w.heap.size, 1, none⟩ = some (.int .i64 c.k) := (hnq.blk bA).cell 1
       have s2 := hnq.size
       have S0 : ∀ u v, ((w2.setCell ⟨wA.heap.size, 0, none⟩ u).setCell ⟨wA.heap.size, 1, none⟩ v).cell? ⟨w.heap.size, 1, none⟩ = some (.int .i64 c.k) := fun u v => Fr.cell (((One.refl wA.heap.size w2).set 0 u).set 1 v) c2 (by show ¬ w.heap.size = wA.heap.size; omega)
       try (have y := m2.blk (Blk.new wA.drew 103 #[.nilFunc, .bool false]); simp only [World.size_drew] at y; have y0 : w2.cell? ⟨wA.heap.size, 0, none⟩ = some .nilFunc := y.cell 0; have y1 : w2.cell? ⟨wA.heap.size, 1, none⟩ = some (.bool false) := y.cell 1; have z0 : w2.frozen? ⟨wA.heap.size, 0, none⟩ = false := y.frozen 0; have z1 : w2.frozen? ⟨wA.heap.size, 1, none⟩ = false := y.frozen 1))
    | fail))
  all_goals
    first
    | (have n2 : New wA ((w2.setCell ⟨wA.heap.size, 0, none⟩ (.func (.func f) #[] #[])).setCell ⟨wA.heap.size, 1, none⟩ (.bool sel)) := New.one hnq (((One.refl wA.heap.size w2).set 0 _).set 1 _) (Nat.le_refl _)
       have e1 : Blk ((w2.setCell ⟨wA.heap.size, 0, none⟩ (.func (.func f) #[] #[])).setCell ⟨wA.heap.size, 1, none⟩ (.bool sel)) wA.heap.size 103 #[.func (.func f) #[] #[], .bool sel] := y.over2 _ _
       generalize ((w2.setCell ⟨wA.heap.size, 0, none⟩ (.func (.func f) #[] #[])).setCell ⟨wA.heap.size, 1, none⟩ (.bool sel)) = w3 at n2 e1 ⊢
       generalize wA.heap.size = G at e1 ⊢)
    | (have n2 : New wA (w2.alloc (.cells #[.func (.func f) #[] #[], .bool sel] 103)) := hnq.alloc _
       have e1 : Blk (w2.alloc (.cells #[.func (.func f) #[] #[], .bool sel] 103)) w2.heap.size 103 #[.func (.func f) #[] #[], .bool sel] := Blk.new _ _ _
       generalize (w2.alloc (.cells #[.func (.func f) #[] #[], .bool sel] 103)) = w3 at n2 e1 ⊢
       generalize w2.heap.size = G at e1 ⊢)
    have b3 := n2.blk bA
    have hx3 := n2.blk hxA
    have o3 := n2.blk oA
    have n3 := nA.trans n2
    clear n2
    obtain ⟨x0, x1, x2, x3⟩ := hx3.all4
    obtain ⟨k0, k1, k2, k3, k4, k5, k6, k7, k8⟩ := b3.all9
    obtain ⟨g0, g1⟩ := e1.all2
    have hOB : w.heap.size ≤ OB := by omega
    have hcall := HF.out OB w3 n3 hOB o3
    have HCALL := Lib.hid hcall
    have HOB := Lib.hid hOB
    clear hcall hOB hlA
    cases sel
    case' true =>
      obtain ⟨a, rfl⟩ : ∃ a, pv = some a := by
        cases pv with
        | none => exact absurd rfl (HSEL.out rfl)
        | some a => exact ⟨a, rfl⟩
    all_goals
      go_wp2_with fail
      refine HCALL.out.mono ?_
      rintro e w4 ⟨st, tx, v, l, rfl, hb4, ho4, hl4, hf4, hX4⟩
      have b4 := Fr.blk hf4 b3 (by rintro (h | h); exact absurd h (by omega); exact absurd (HS.out _ h) (by omega))
      obtain ⟨vA, vC, rfl, hvC⟩ := ho4.form
      have s4 := n3.size
      have s4' := hf4.size
      have b5 := b4.alloc (.cells #[.int .i64 st, .string tx] 108)
      have hb5 := hb4.alloc (.cells #[.int .i64 st, .string tx] 108)
      have ho5 := ho4.alloc (.cells #[.int .i64 st, .string tx] 108)
      have g5 := Blk.new w4 108 #[.int .i64 st, .string tx]
      have m45 := (New.refl w4).alloc (.cells #[.int .i64 st, .string tx] 108)
      have F4 := Lib.hid hf4
      have X4 := Lib.hid hX4
      have O4 := Lib.hid ho4
      have N3 := Lib.hid n3
      have S4 := Lib.hid (Nat.le_trans s4 s4')
      clear x0 x1 x2 x3 k0 k1 k2 k3 k4 k5 k6 k7 k8 g0 g1 hf4 hX4 ho4 n3 s4 s4' hx3 b3 o3 e1 hb4 b4
      go_wp2_with fail
      generalize (w4.alloc (.cells #[.int .i64 st, .string tx] 108)) = w5 at *
      generalize w4.heap.size = g at g5 ⊢
      obtain ⟨k0, k1, k2, k3, k4, k5, k6, k7, k8⟩ := b5.all9
      obtain ⟨g0, g1⟩ := g5.all2
      have q0 : w5.cell? ⟨OB, 0, none⟩ = some (.slice vA l.length vC) := hb5.cell 0
      have G5 := Lib.hid g5
      clear k1 k2 k3 k4 k5 k6 k7 k8 g5
      go_region_held3 (fun W => W.cell? ⟨w.heap.size, 0, none⟩ = some (.string c.t) ∧ W.cell? ⟨g, 0, none⟩ = some (.int .i64 st) ∧ W.cell? ⟨g, 1, none⟩ = some (.string tx) ∧ W.cell? ⟨OB, 0, none⟩ = some (.slice vA l.length vC)) (first | go_keep | (refine ⟨?_, ?_, ?_, ?_⟩ <;> assumption)) ((first
        | (go_at_call 42
           refine (reply_any c.t st tx _).mono ?_
           rintro e w6 ⟨rfl, m6⟩
           have hnq : New w5 w6 := Fr.trans (by repeat' first | exact New.refl _ | apply Fr.alloc | apply Fr.drewN | apply Fr.drew) m6
           have p0 : w6.cell? ⟨w.heap.size, 0, none⟩ = some (.string c.t) := Fr.cell hnq k0 (fun h => h)
           have p1 : w6.cell? ⟨g, 0, none⟩ = some (.int .i64 st) := Fr.cell hnq g0 (fun h => h)
           have p2 : w6.cell? ⟨g, 1, none⟩ = some (.string tx) := Fr.cell hnq g1 (fun h => h)
           have p3 : w6.cell? ⟨OB, 0, none⟩ = some (.slice vA l.length vC) := Fr.cell hnq q0 (fun h => h)
           have HR := Lib.hid (rd_one' (E := rspE) (x := repR c.t st tx) (t := 53) (Blk.new w6 53 (rspE.enc (repR c.t st tx)).toArray))
           have N6 := Lib.hid (hnq.alloc (.cells (rspE.enc (repR c.t st tx)).toArray 53)))
        | (refine step_append_list (E := rspE) (l := l) (v := .slice vA l.length vC) (by rfl) (.tmp 48) (.tmp 56) 50 (by rfl) Tryz.underlying50 hi hz0 hz1 hz2 rfl (by rfl) (by rfl) [repR c.t st tx] (ho5.new N6.out) HR.out (by unfold maxLen; simp; omega) (by simp; omega) (Nat.le_trans S4.out (Nat.le_trans m45.size N6.out.size)) ?_
           intro A7 C7 w7 ho7 hf7 hl7
           have hz : ∀ z, (Value.slice vA l.length vC).ownBlock = some z → z ≠ w.heap.size ∧ z ≠ g ∧ z ≠ OB := fun z hz => ⟨fun e => ho5.blk_ne b5 (by decide) (by rw [← e]; exact hz), fun e => ho5.blk_ne G5.out (by decide) (by rw [← e]; exact hz), fun e => ho5.blk_ne hb5 (by decide) (by rw [← e]; exact hz)⟩
           have t0 : w7.cell? ⟨w.heap.size, 0, none⟩ = some (.string c.t) := Fr.cell hf7 (Fr.cell N6.out k0 (fun h => h)) (fun h => (hz _ h).1 rfl)
           have t1 : w7.cell? ⟨g, 0, none⟩ = some (.int .i64 st) := Fr.cell hf7 (Fr.cell N6.out g0 (fun h => h)) (fun h => (hz _ h).2.1 rfl)
           have t2 : w7.cell? ⟨g, 1, none⟩ = some (.string tx) := Fr.cell hf7 (Fr.cell N6.out g1 (fun h => h)) (fun h => (hz _ h).2.1 rfl)
           have t3 : w7.cell? ⟨OB, 0, none⟩ = some (.slice vA l.length vC) := Fr.cell hf7 (Fr.cell N6.out q0 (fun h => h)) (fun h => (hz _ h).2.2 rfl)
           have e8 : (l ++ [repR c.t st tx]).length = l.length + 1 := by simp
           rw [e8] at ho7
           have O7 := Lib.hid ho7
           clear e8
           have F7 := Lib.hid hf7
           clear ho7 hf7 hl7 hz)
        | fail))
      all_goals
        go_wp2
        go_ret
        refine ⟨st, tx, _, l, rfl, O7.out, ?_, HX.out st tx l _ w4 w7 X4.out O4.out (Fr.trans ((m45.trans N6.out).mono fun _ _ h => h.elim) F7.out)⟩
        have hs4 := S4.out
        have e4 : Fr S w w4 := Fr.trans' (N3.out.mono fun _ _ h => h.elim) F4.out fun i hi h => by
          rcases h with h | h
          · have := HOB.out; omega
          · exact h
        refine Fr.trans' (e4.trans ((m45.trans N6.out).mono fun _ _ h => h.elim)) F7.out fun i hi h => ?_
        have := (O4.out.block h).1
        omega
end Go.Proofs.YtliimglbbiebiaaGreatDoor
end

section
/- exec.State.Do at a NOOP of a session without a view. -/
namespace Go.Proofs.YtliimglbbiebiaaGreatDoor
open Go.RowKit Go.Maps

theorem do_noop (x : Nat) (bx : Value) (sid : Int) (c : Cmd) (hk : c.k = 1) (w : World) (hx : Ses w x bx sid none false)
    (hV : ∀ W, New w W → Calls Tryz.prog 38 #[c.val] W fun e W' => e = .returned (.bool true) ∧ New W W') :
    Calls Tryz.prog 17 #[.pointer (some ⟨x, 0, none⟩), c.val] w fun e w' => ∃ v, e = .returned v ∧ Own rspE 53 w.heap.size w' v [repR c.t 0 noopS] ∧ New w w' := by
  refine (xdo_any x bx sid none c 65 false (fun _ => False) (fun st tx l _ => st = 0 ∧ tx = noopS ∧ l = []) w (enters_of Tryz.func65 (by kernel_rfl) rfl) hx (by rw [hk]; rfl) (by rw [hk]; exact okI1) (by simp) hV ?_ (fun _ h => h.elim) (fun _ _ _ _ _ _ h _ _ => h)).mono ?_
  · intro OB W hW hOB hb
    refine (noop_none x OB w.heap.size bx sid false c W (hW.blk hx) hb hW.size).mono ?_
    rintro e W' ⟨rfl, v, h1, h2, h3⟩
    exact ⟨0, noopS, v, [], rfl, h1, h2, by simp, h3.mono fun _ _ h => .inl h, rfl, rfl, rfl⟩
  · rintro e w' ⟨st, tx, v, l, rfl, ho, hf, rfl, rfl, rfl⟩
    exact ⟨v, rfl, ho, hf⟩
end Go.Proofs.YtliimglbbiebiaaGreatDoor
end

section
/- Validity, Unsubscribe of a mailbox; resp.Count; the outcome of a code. -/
namespace Go.Proofs.YtliimglbbiebiaaGreatDoor
open Go.RowKit Go.Maps

section
variable {w0 w : World} {base : Nat} {S : Sx} {Q : Qs} {M : List Msg} {n t f : Int}
theorem svalid_any (h : STX w0 base w S Q M n t f) : Calls Tryz.prog 97 #[.pointer (some ⟨S.s, 0, none⟩)] w fun e w' => e = .returned (.int .u32 f) ∧ STX w0 base w' { S with vv := f, dd := 1 } Q M n t f ∧ One S.c w w' := by
  have e1 : w.cell? ⟨S.s, 1, none⟩ = some (.pointer (some ⟨S.c, 0, none⟩)) := h.hd.cell 1
  have HN := Lib.hid (UV.validity_any h.ctr h.vd)
  have H := Lib.hid h
  clear h
  go_enter Tryz.func97, Tryz.ntmps97
  go_wp2_with fail
  refine HN.out.mono ?_
  rintro e w5 ⟨rfl, hc, o5⟩
  go_wp2
  go_ret
  refine ⟨rfl, ?_, o5⟩
  have h := H.out
  obtain ⟨X, hXm, hX⟩ := h.tbl
  exact { h with
    hd := o5.blk h.hd h.s_ne.1
    tbl := ⟨X, hXm, hX.fr o5 (fun k hk hT => h.ac ((show k = S.c from hk) ▸ hT)) fun v l ho b hb e => by subst e; exact (h.body_ne ho hb).2.1 rfl⟩
    ctr := hc
    vd := .inr ⟨rfl, rfl⟩
    idx := h.idx.fr o5 (fun e => h.c_ne.1 e.symm) fun b hb e => h.c_ne.2.1 b hb e.symm
    qx := h.qx.fr o5 (fun e => h.q_ne.2.1 e) fun k hk e => by subst e; exact h.c_ne.2.2 hk
    hb := Nat.le_trans h.hb o5.size
    new := New.two h.new o5 fun k e => by subst e; exact h.lo _ (.inr (.inr (.inl rfl))) }

theorem sunsub_none (h : STX w0 base w S Q M n t f) (i : Int) (h0 : 0 ≤ i) (h1 : i ≤ 9223372036854775807) (hi : i ∉ Q.ids) :
    Calls Tryz.prog 125 #[.pointer (some ⟨S.s, 0, none⟩), .int .i64 i] w fun e w' => e = .returned (.bool false) ∧ w' = w := by
  have hk := qokI (by omega) h1
  have hlk := h.qx.map.run_look (t := 92) (e := 280) Tryz.underlying92 (zeroQ w) hk
  rw [h.get_none hi] at hlk
  simp only [Option.getD_none] at hlk
  change (Instr.lookup 92 (.map (some S.q)) (.int .i64 i) false).run Tryz.prog w = _ at hlk
  have e2 : w.cell? ⟨S.s, 4, none⟩ = some (.map (some S.q)) := h.hd.cell 4
  go_enter Tryz.func125, Tryz.ntmps125
  go_wp2
  go_ret
  exact ⟨rfl, rfl⟩
end

theorem count_rsp (k : Int) (n : Nat) (hn : n < 4294967296) (w : World) : Calls Tryz.prog 95 #[.int .i64 k, .int .i64 n] w fun e w' => e = .returned (Rsp.val ⟨k, n, ⟨#[]⟩, 0, ⟨#[]⟩, 0, 0, 0, 0, none, 0, 0⟩) ∧ New w w' := by
  have hw : IntKind.u32.wrap (n : Int) = n := by unfold IntKind.wrap; simp [IntKind.bits, IntKind.signed]; omega
  go_enter Tryz.func95, Tryz.ntmps95
  go_wp2
  exact bodyPost_ret (results_cell1 rfl _ _ rfl (loadR (Blk.new _ _ _))) rfl ⟨rfl, (New.refl w).alloc _⟩

/-! The outcome of a code. -/
def fullS : ByteArray := ⟨#[109, 97, 105, 108, 98, 111, 120, 32, 105, 115, 32, 102, 117, 108, 108]⟩
def noidS : ByteArray := ⟨#[110, 111, 32, 105, 100, 101, 110, 116, 105, 102, 105, 101, 114, 115, 32, 108, 101, 102, 116]⟩
theorem status_no (c : Int) (hc : c = 5 ∨ c = 6) (w : World) : Calls Tryz.prog 136 #[.int .i64 c] w fun e w' => e = .returned (.int .i64 1) ∧ w' = w := by
  rcases hc with rfl | rfl
  all_goals
    go_enter Tryz.func136, Tryz.ntmps136
    go_wp2
    go_ret
    exact ⟨rfl, rfl⟩
def codeS (c : Int) : ByteArray := if c = 5 then fullS else noidS
theorem text_no (c : Int) (hc : c = 5 ∨ c = 6) (w : World) : Calls Tryz.prog 137 #[.int .i64 c] w fun e w' => e = .returned (.string (codeS c)) ∧ w' = w := by
  rcases hc with rfl | rfl
  all_goals
    go_enter Tryz.func137, Tryz.ntmps137
    go_wp2
    go_ret
    exact ⟨rfl, rfl⟩
theorem of_ok (x : ByteArray) (w : World) : Calls Tryz.prog 99 #[.int .i64 0, .string x] w fun e w' => e = .returned (.agg #[.int .i64 0, .string x]) ∧ New w w' := by
  go_enter Tryz.func99, Tryz.ntmps99
  go_wp2
  exact bodyPost_ret (results_cell1 rfl _ _ rfl (loadOut (Blk.new _ _ _))) rfl ⟨rfl, (New.refl w).alloc _⟩
theorem of_no (c : Int) (hc : c = 5 ∨ c = 6) (x : ByteArray) (w : World) : Calls Tryz.prog 99 #[.int .i64 c, .string x] w fun e w' => e = .returned (.agg #[.int .i64 1, .string (codeS c)]) ∧ New w w' := by
  have hne : (c == 0) = false := by rcases hc with rfl | rfl <;> rfl
  have HC := Lib.hid hc
  go_enter Tryz.func99, Tryz.ntmps99
  go_wp2_with (first | (go_at_call 136; refine (status_no c HC.out _).mono ?_; rintro e w1 ⟨rfl, rfl⟩) | (go_at_call 137; refine (text_no c HC.out _).mono ?_; rintro e w2 ⟨rfl, rfl⟩) | fail)
  exact bodyPost_ret (results_cell1 rfl _ _ rfl (loadOut (Blk.new _ _ _))) rfl ⟨rfl, (New.refl w).alloc _⟩
end Go.Proofs.YtliimglbbiebiaaGreatDoor
end

section
/- A view: New, Len, an arrival. -/
namespace Go.Proofs.YtliimglbbiebiaaGreatDoor
open Go.RowKit Go.Maps

/-- A view, its index. -/
abbrev VW (w : World) (v x : Nat) (g : Bool) : Prop := Blk w v 111 #[.pointer (some ⟨x, 0, none⟩), .bool g]

section
variable {w : World} {v x : Nat} {g : Bool} {u : Value} {l : List Int} {base : Nat}
theorem vlen_any (hv : VW w v x g) (hi : IdxU base w x u l) : Calls Tryz.prog 96 #[.pointer (some ⟨v, 0, none⟩)] w fun e w' => e = .returned (.int .i64 l.length) ∧ w' = w := by
  have c0 : w.cell? ⟨v, 0, none⟩ = some (.pointer (some ⟨x, 0, none⟩)) := hv.cell 0
  have HL := Lib.hid (ilen_any hi.at_)
  clear hi
  go_enter Tryz.func96, Tryz.ntmps96
  go_wp2_with fail
  refine HL.out.mono ?_
  rintro e w1 ⟨rfl, rfl⟩
  go_wp2
  go_ret
  exact ⟨rfl, rfl⟩

theorem vnew_nil (vv : Value) (hv : Rd (intE .u32) w vv []) : Calls Tryz.prog 128 #[vv] w fun e w' => ∃ v x u, e = .returned (.pointer (some ⟨v, 0, none⟩)) ∧ VW w' v x false ∧ IdxU 0 w' x u [] ∧ w.heap.size ≤ v ∧ w.heap.size ≤ x ∧ (∀ b, u.ownBlock = some b → w.heap.size ≤ b) ∧ New w w' := by
  have HN := Lib.hid (inew_any hv (by simp))
  have h0 : Hid (idxOf [] = []) := Lib.hid (by simp [idxOf, compactP])
  clear hv
  go_enter Tryz.func128, Tryz.ntmps128
  go_wp2_with fail
  refine HN.out.mono ?_
  rintro e w1 ⟨x, u, rfl, hx, hb, hr, hux, n1⟩
  have HB := Lib.hid hb
  have HRR := Lib.hid hr
  have HUX := Lib.hid hux
  clear hb hr hux
  go_wp2
  go_ret
  have hr := HRR.out
  rw [h0.out] at hr
  have n2 : New w1 (w1.alloc (.cells #[.pointer (some ⟨x, 0, none⟩), .bool false] 111)) := (New.refl w1).alloc _
  exact ⟨w1.heap.size, x, u, rfl, Blk.new _ _ _, IdxU.new ⟨HB.out, hr.mono (Nat.zero_le _), HUX.out⟩ n2, n1.size, hx, fun b hb => (hr.block hb).1, n1.trans n2⟩

theorem iapp_top (hi : IdxU base w x u l) (hbase : base ≤ w.heap.size) (hl : l.length ≤ 100000) (uid : Int) (h0 : uid ≠ 0) (htop : ∀ y ∈ l, y < uid) :
    Calls Tryz.prog 189 #[.pointer (some ⟨x, 0, none⟩), .int .u32 uid] w fun e w' => e = .returned (.bool true) ∧ ∃ u', IdxU base w' x u' (l ++ [uid]) ∧ IFr x u w w' ∧ Stays w u u' := by
  refine (iapp_any hi hbase hl uid).mono ?_
  rintro e w' ⟨k, u', rfl, hk, h1, h2, h3⟩
  rw [appOf_top hk h0 htop] at h1 ⊢
  exact ⟨rfl, u', h1, h2, h3⟩

set_option maxRecDepth 100000 in
set_option maxHeartbeats 1600000 in
/-- An identifier above all. -/
theorem arrived_top (hv : VW w v x g) (hi : IdxU 0 w x u l) (hl : l.length ≤ 100000) (uid fl : Int) (h0 : uid ≠ 0) (htop : ∀ y ∈ l, y < uid) (k : Int) :
    Calls Tryz.prog 177 #[.pointer (some ⟨v, 0, none⟩), .agg #[.int .i64 k, .int .u32 uid, .int .u8 fl]] w fun e w' => e = .returned (.tuple #[Rsp.val ⟨0, 0, ⟨#[]⟩, 0, ⟨#[]⟩, 0, 0, 0, 0, none, 0, 0⟩, .bool false]) ∧ VW w' v x true ∧ ∃ u', IdxU 0 w' x u' (l ++ [uid]) ∧ Fr (fun k => k = v ∨ k = x ∨ u.ownBlock = some k) w w' ∧ Stays w u u' := by
  obtain ⟨wA, hwA⟩ : ∃ wA, wA = (w.alloc (.cells #[.int .i64 k, .int .u32 uid, .int .u8 fl] 232)).alloc (.cells #[.int .i64 0, .int .u32 0, .string ⟨#[]⟩, .int .i64 0, .string ⟨#[]⟩, .int .i64 0, .int .u8 0, .int .u32 0, .int .u32 0, .slice none 0 0] 53) := ⟨_, rfl⟩
  have n0 : New w wA := hwA ▸ ((New.refl w).alloc _).alloc _
  have e0 : Blk wA w.heap.size 232 #[.int .i64 k, .int .u32 uid, .int .u8 fl] := hwA ▸ (Blk.new _ _ _).alloc _
  have r0 : Blk wA (w.heap.size + 1) 53 #[.int .i64 0, .int .u32 0, .string ⟨#[]⟩, .int .i64 0, .string ⟨#[]⟩, .int .i64 0, .int .u8 0, .int .u32 0, .int .u32 0, .slice none 0 0] := hwA ▸ Blk.new1 _ _ _ _
  have hvA := n0.blk hv
  have hiA := hi.new n0
  have a0 : wA.cell? ⟨v, 0, none⟩ = some (.pointer (some ⟨x, 0, none⟩)) := hvA.cell 0
  have a1 : wA.cell? ⟨w.heap.size, 1, none⟩ = some (.int .u32 uid) := e0.cell 1
  have HI := Lib.hid hi
  have HA := Lib.hid hiA
  have HT := Lib.hid htop
  clear hi hiA htop
  go_enter Tryz.func177, Tryz.ntmps177
  go_wp2_with fail
  rw [← hwA]
  clear hwA
  go_region_held3 (fun W => W.cell? ⟨v, 0, none⟩ = some (.pointer (some ⟨x, 0, none⟩)) ∧ W.cell? ⟨w.heap.size, 1, none⟩ = some (.int .u32 uid)) (first | go_keep | (refine ⟨?_, ?_⟩ <;> assumption)) ((first
    | (go_at_call 189
       refine (iapp_top (HA.out.new (by repeat' first | exact New.refl _ | apply Fr.alloc | apply Fr.drewN | apply Fr.drew)) (Nat.zero_le _) hl uid h0 HT.out).mono ?_
       rintro e w2 ⟨rfl, u', hi2, f2, st2⟩
       have F2 : IFr x u wA w2 := Fr.trans (New.to (by repeat' first | exact New.refl _ | apply Fr.alloc | apply Fr.drewN | apply Fr.drew)) f2
       have hv2 := F2.blk hvA (by
         rintro (e | e)
         · exact hvA.ne_ HA.out.1 (by decide) e
         · obtain ⟨cs, hcs⟩ := HA.out.2.1.heap e
           exact hvA.ne_ hcs (by decide) rfl)
       have r2 := F2.blk r0 (by
         rintro (e | e)
         · exact r0.ne_ HA.out.1 (by decide) e
         · obtain ⟨cs, hcs⟩ := HA.out.2.1.heap e
           exact r0.ne_ hcs (by decide) rfl)
       have e2 := F2.blk e0 (by
         rintro (e | e)
         · exact e0.ne_ HA.out.1 (by decide) e
         · obtain ⟨cs, hcs⟩ := HA.out.2.1.heap e
           exact e0.ne_ hcs (by decide) rfl)
       have p2 : w2.cell? ⟨w.heap.size, 1, none⟩ = some (.int .u32 uid) := e2.cell 1
       have p0 : w2.cell? ⟨v, 0, none⟩ = some (.pointer (some ⟨x, 0, none⟩)) := hv2.cell 0
       have p1 : w2.cell? ⟨v, 1, none⟩ = some (.bool g) := hv2.cell 1
       have f1 : w2.frozen? ⟨v, 1, none⟩ = false := hv2.frozen 1
       have HI2 := Lib.hid hi2
       have HF2 := Lib.hid F2
       have HS2 := Lib.hid st2
       clear hi2 f2 F2 st2)
    | fail))
  have hvs : VW (w2.setCell ⟨v, 1, none⟩ (.bool true)) v x true := hv2.set_ 1 _
  have rs := r2.far (p := ⟨v, 1, none⟩) (by show w.heap.size + 1 ≠ v; have := hv.lt; omega) (.bool true)
  have hsv := hv.lt
  have hsx := HI.out.1.lt
  have hOne : One v w2 (w2.setCell ⟨v, 1, none⟩ (.bool true)) := (One.refl v w2).set 1 _
  have his := HI2.out.fr hOne (HI.out.1.ne_ hv (by decide)) (fun b hb e => by
    subst e
    rcases HS2.out with e1 | ⟨b', e1, e2⟩
    · rw [e1] at hb
      obtain ⟨cs, hcs⟩ := HI.out.2.1.heap hb
      exact hcs.ne_ hv (by decide) rfl
    · rw [e1] at hb; injection hb with hb; have := n0.size; have e3 : wA.drew.heap.size = wA.heap.size := rfl; omega)
  have hst : Stays w u u' := by
    rcases HS2.out with e1 | ⟨b', e1, e2⟩
    · exact .inl e1
    · exact .inr ⟨b', e1, by have := n0.size; have e3 : wA.drew.heap.size = wA.heap.size := rfl; omega⟩
  have HF3 : Fr (fun k => k = v ∨ k = x ∨ u.ownBlock = some k) w (w2.setCell ⟨v, 1, none⟩ (.bool true)) := Fr.trans (Fr.trans (New.to n0) (HF2.out.mono fun k _ h => .inr h)) (hOne.mono fun k _ h => .inl h)
  have hsz3 : w.heap.size + 1 < (w2.setCell ⟨v, 1, none⟩ (.bool true)).heap.size := rs.lt
  have HIS := Lib.hid his
  have HST := Lib.hid hst
  have HF3' := Lib.hid HF3
  clear hv2 r2 p2 e2 HS2 HF2 HI2 his hst HF3 hOne
  obtain ⟨q0, q1, q2, q3, q4, q5, q6, q7, q8, q9⟩ := rs.all10
  have ff := rs.froz
  go_wp2
  clear q0 q1 q2 q3 q4 q5 q6 q7 q8 q9 ff p0 p1 f1
  generalize (w2.setCell ⟨v, 1, none⟩ (.bool true)) = w3 at *
  have hR := rs.over10 (.int .i64 0) (.int .u32 0) (.string ⟨#[]⟩) (.int .i64 0) (.string ⟨#[]⟩) (.int .i64 0) (.int .u8 0) (.int .u32 0) (.int .u32 0) (.slice none 0 0)
  have hO := One.over10 w3 (w.heap.size + 1) (.int .i64 0) (.int .u32 0) (.string ⟨#[]⟩) (.int .i64 0) (.string ⟨#[]⟩) (.int .i64 0) (.int .u8 0) (.int .u32 0) (.int .u32 0) (.slice none 0 0)
  refine bodyPost_ret (results_cellt rfl _ _ rfl rfl (loadR hR)) rfl ⟨rfl, hO.blk hvs (by omega), u', HIS.out.fr hO (by omega) (fun b hb e => ?_), Fr.trans' HF3'.out hO (fun i hi e => by omega), HST.out⟩
  have e : b = w.heap.size + 1 := e
  subst e
  obtain ⟨cs, hcs⟩ := HIS.out.2.1.heap hb
  exact hcs.ne_ rs (by decide) rfl
end
end Go.Proofs.YtliimglbbiebiaaGreatDoor
end

section
/- A view: Apply's own functions. -/
namespace Go.Proofs.YtliimglbbiebiaaGreatDoor
open Go.RowKit Go.Maps

abbrev existsR (n : Nat) : Rsp := ⟨1, n, ⟨#[]⟩, 0, ⟨#[]⟩, 0, 0, 0, 0, none, 0, 0⟩

section
variable {w : World} {v x OB AB VB : Nat} {g : Bool} {u vo : Value} {l : List Int} {lo : List Rsp} {base : Nat}
theorem add_no (r : Rsp) (w : World) : Calls Tryz.prog 174 #[r.val, .bool false, .pointer (some ⟨OB, 0, none⟩)] w fun e w' => e = .returned (.tuple #[]) ∧ New w w' := by
  unfold Rsp.val
  go_enter Tryz.func174, Tryz.ntmps174
  go_wp2
  go_end0
  exact ⟨rfl, (New.refl w).alloc _⟩

set_option maxRecDepth 100000 in
set_option maxHeartbeats 1600000 in
theorem add_yes (r : Rsp) (hb : Blk w OB 50 #[vo]) (ho : Own rspE 53 base w vo lo) (hl : lo.length ≤ 100000) (hbase : base ≤ w.heap.size) :
    Calls Tryz.prog 174 #[r.val, .bool true, .pointer (some ⟨OB, 0, none⟩)] w fun e w' => e = .returned (.tuple #[]) ∧ ∃ vo', Blk w' OB 50 #[vo'] ∧ Own rspE 53 base w' vo' (lo ++ [r]) ∧ Fr (fun k => k = OB ∨ vo.ownBlock = some k) w w' ∧ (vo'.ownBlock = vo.ownBlock ∨ ∃ g, vo'.ownBlock = some g ∧ w.heap.size ≤ g) := by
  obtain ⟨i0, hi, hz0, hz1, hz2⟩ := info_parts rsp_info
  obtain ⟨vA, vc, rfl, hvc⟩ := ho.form
  have n0 : New w (w.alloc (.cells #[.int .i64 r.k, .int .u32 r.n, .string r.t, .int .i64 r.st, .string r.x, .int .i64 r.it, .int .u8 r.fl, .int .u32 r.uid, .int .u32 r.sz, .slice r.A r.bn r.bc] 53)) := (New.refl w).alloc _
  have r0 : Blk (w.alloc (.cells #[.int .i64 r.k, .int .u32 r.n, .string r.t, .int .i64 r.st, .string r.x, .int .i64 r.it, .int .u8 r.fl, .int .u32 r.uid, .int .u32 r.sz, .slice r.A r.bn r.bc] 53)) w.heap.size 53 #[.int .i64 r.k, .int .u32 r.n, .string r.t, .int .i64 r.st, .string r.x, .int .i64 r.it, .int .u8 r.fl, .int .u32 r.uid, .int .u32 r.sz, .slice r.A r.bn r.bc] := Blk.new _ _ _
  have hbA := n0.blk hb
  have hoA := ho.new n0
  have c0 : (w.alloc (.cells #[.int .i64 r.k, .int .u32 r.n, .string r.t, .int .i64 r.st, .string r.x, .int .i64 r.it, .int .u8 r.fl, .int .u32 r.uid, .int .u32 r.sz, .slice r.A r.bn r.bc] 53)).cell? ⟨OB, 0, none⟩ = some (.slice vA lo.length vc) := hbA.cell 0
  have ee := r0.all10
  have hs1 : (w.alloc (.cells #[.int .i64 r.k, .int .u32 r.n, .string r.t, .int .i64 r.st, .string r.x, .int .i64 r.it, .int .u8 r.fl, .int .u32 r.uid, .int .u32 r.sz, .slice r.A r.bn r.bc] 53)).heap.size = w.heap.size + 1 := World.size_alloc _ _
  have hbB : Blk ((w.alloc (.cells #[.int .i64 r.k, .int .u32 r.n, .string r.t, .int .i64 r.st, .string r.x, .int .i64 r.it, .int .u8 r.fl, .int .u32 r.uid, .int .u32 r.sz, .slice r.A r.bn r.bc] 53)).alloc (.cells #[.int .i64 r.k, .int .u32 r.n, .string r.t, .int .i64 r.st, .string r.x, .int .i64 r.it, .int .u8 r.fl, .int .u32 r.uid, .int .u32 r.sz, .slice r.A r.bn r.bc] 53)) OB 50 #[.slice vA lo.length vc] := hbA.alloc _
  have hoB : Own rspE 53 base ((w.alloc (.cells #[.int .i64 r.k, .int .u32 r.n, .string r.t, .int .i64 r.st, .string r.x, .int .i64 r.it, .int .u8 r.fl, .int .u32 r.uid, .int .u32 r.sz, .slice r.A r.bn r.bc] 53)).alloc (.cells #[.int .i64 r.k, .int .u32 r.n, .string r.t, .int .i64 r.st, .string r.x, .int .i64 r.it, .int .u8 r.fl, .int .u32 r.uid, .int .u32 r.sz, .slice r.A r.bn r.bc] 53)) (.slice vA lo.length vc) lo := hoA.alloc _
  have hrd : Rd rspE ((w.alloc (.cells #[.int .i64 r.k, .int .u32 r.n, .string r.t, .int .i64 r.st, .string r.x, .int .i64 r.it, .int .u8 r.fl, .int .u32 r.uid, .int .u32 r.sz, .slice r.A r.bn r.bc] 53)).alloc (.cells #[.int .i64 r.k, .int .u32 r.n, .string r.t, .int .i64 r.st, .string r.x, .int .i64 r.it, .int .u8 r.fl, .int .u32 r.uid, .int .u32 r.sz, .slice r.A r.bn r.bc] 53)) (.slice (some ⟨w.heap.size + 1, 0, none⟩) 1 1) [r] := rd_one' (E := rspE) (x := r) (t := 53) (Blk.new1 _ _ _ _)
  have hsz : base ≤ ((w.alloc (.cells #[.int .i64 r.k, .int .u32 r.n, .string r.t, .int .i64 r.st, .string r.x, .int .i64 r.it, .int .u8 r.fl, .int .u32 r.uid, .int .u32 r.sz, .slice r.A r.bn r.bc] 53)).alloc (.cells #[.int .i64 r.k, .int .u32 r.n, .string r.t, .int .i64 r.st, .string r.x, .int .i64 r.it, .int .u8 r.fl, .int .u32 r.uid, .int .u32 r.sz, .slice r.A r.bn r.bc] 53)).heap.size := by have := n0.size; rw [World.size_alloc]; omega
  have nB : New w ((w.alloc (.cells #[.int .i64 r.k, .int .u32 r.n, .string r.t, .int .i64 r.st, .string r.x, .int .i64 r.it, .int .u8 r.fl, .int .u32 r.uid, .int .u32 r.sz, .slice r.A r.bn r.bc] 53)).alloc (.cells #[.int .i64 r.k, .int .u32 r.n, .string r.t, .int .i64 r.st, .string r.x, .int .i64 r.it, .int .u8 r.fl, .int .u32 r.uid, .int .u32 r.sz, .slice r.A r.bn r.bc] 53)) := n0.alloc _
  have hne : ∀ g, (Value.slice vA lo.length vc).ownBlock = some g → g ≠ OB := fun g hg e => ho.blk_ne hb (by decide) (by rw [← e]; exact hg)
  have HNE := Lib.hid hne
  obtain ⟨k0, k1, k2, k3, k4, k5, k6, k7, k8, k9⟩ := ee
  have HOB := Lib.hid hb.lt
  clear hne n0 r0 hbA hoA hb ho
  unfold Rsp.val
  go_enter Tryz.func174, Tryz.ntmps174
  go_wp2_with (at_builtin; refine wpList_append (E := rspE) rfl _ _ _ rfl Tryz.underlying50 hi hz0 hz1 hz2 rfl hoB rfl hrd rfl (by unfold maxLen; simp; omega) (by simp; omega) hsz ?_; intro v1 w1 hv1 hf1 hl1; have hb1 := Fr.blk hf1 hbB (fun hs => HNE.out _ hs rfl); have c1 : w1.cell? ⟨OB, 0, none⟩ = some (.slice vA lo.length vc) := hb1.cell 0; have f1 : w1.frozen? ⟨OB, 0, none⟩ = false := hb1.frozen 0; obtain ⟨A2, C2, rfl, _⟩ := hv1.form; rw [show (lo ++ [r]).length = lo.length + 1 from by simp] at hv1 hl1)
  go_end0
  have hg1 : Fr (fun k => k = OB ∨ (Value.slice vA lo.length vc).ownBlock = some k) w w1 := Fr.trans (nB.mono fun _ _ h => h.elim) (hf1.mono fun k _ hk => .inr hk)
  refine ⟨rfl, _, hb1.set_ 0 _, hv1.fr ((One.refl OB w1).set 0 _) (fun g hg e => ?_), hg1.setCell (p := ⟨OB, 0, none⟩) (fun _ => .inl rfl) _, ?_⟩
  · have e : g = OB := e
    exact hv1.blk_ne hb1 (by decide) (by rw [← e]; exact hg)
  · rcases hl1 with h | h
    · exact .inl h
    · exact .inr ⟨_, h, by rw [World.size_alloc]; omega⟩

abbrev addF (OB : Nat) : Value := .func (.func 174) #[] #[.pointer (some ⟨OB, 0, none⟩)]

set_option maxRecDepth 100000 in
set_option maxHeartbeats 1600000 in
theorem exists_no (hA : w.cell? ⟨AB, 0, none⟩ = some (addF OB)) (hV : w.cell? ⟨VB, 0, none⟩ = some (.pointer (some ⟨v, 0, none⟩))) (hv : VW w v x false) (hi : IdxU 0 w x u l) (hl : l.length ≤ 100000) :
    Calls Tryz.prog 175 #[.pointer (some ⟨AB, 0, none⟩), .pointer (some ⟨VB, 0, none⟩)] w fun e w' => e = .returned (.tuple #[]) ∧ VW w' v x false ∧ Fr (fun k => k = v) w w' := by
  have hg : w.cell? ⟨v, 1, none⟩ = some (.bool false) := hv.cell 1
  have HI := Lib.hid hi
  clear hi
  go_enter Tryz.func175, Tryz.ntmps175
  go_wp2_with fail
  go_region_held3 (fun W => W.cell? ⟨AB, 0, none⟩ = some (addF OB) ∧ W.cell? ⟨VB, 0, none⟩ = some (.pointer (some ⟨v, 0, none⟩)) ∧ W.cell? ⟨v, 1, none⟩ = some (.bool false)) (first | go_keep | (refine ⟨?_, ?_, ?_⟩ <;> assumption)) ((first
    | (go_at_call 96
       refine (vlen_any (Fr.blk (S := fun _ => False) (by repeat' first | exact New.refl _ | assumption | apply Fr.alloc | apply Fr.drewN | apply Fr.drew) hv id) (HI.out.new (by repeat' first | exact New.refl _ | assumption | apply Fr.alloc | apply Fr.drewN | apply Fr.drew))).mono ?_
       rintro e w1 ⟨rfl, rfl⟩)
    | (go_at_call 95
       refine (count_rsp 1 l.length (by omega) _).mono ?_
       rintro e w2 ⟨rfl, m2⟩
       have n2 : New w w2 := Fr.trans (by repeat' first | exact New.refl _ | assumption | apply Fr.alloc | apply Fr.drewN | apply Fr.drew) m2
       have p0 : w2.cell? ⟨AB, 0, none⟩ = some (addF OB) := Fr.cell n2 hA id
       have p1 : w2.cell? ⟨VB, 0, none⟩ = some (.pointer (some ⟨v, 0, none⟩)) := Fr.cell n2 hV id
       have p2 : w2.cell? ⟨v, 1, none⟩ = some (.bool false) := Fr.cell n2 hg id)
    | (go_at_call 174
       refine (add_no (existsR l.length) _).mono ?_
       rintro e w3 ⟨rfl, m3⟩
       have n3 : New w w3 := Fr.trans (by repeat' first | exact New.refl _ | assumption | apply Fr.alloc | apply Fr.drewN | apply Fr.drew) m3
       have q0 : w3.cell? ⟨AB, 0, none⟩ = some (addF OB) := Fr.cell n3 hA id
       have q1 : w3.cell? ⟨VB, 0, none⟩ = some (.pointer (some ⟨v, 0, none⟩)) := Fr.cell n3 hV id
       have hv3 := n3.blk hv
       have q2 : w3.cell? ⟨v, 1, none⟩ = some (.bool false) := hv3.cell 1
       have q3 : w3.frozen? ⟨v, 1, none⟩ = false := hv3.frozen 1)
    | fail))
  go_wp2
  go_end0
  exact ⟨rfl, hv3.set_ 1 _, Fr.setCell (S := fun k => k = v) (n3.mono fun _ _ h => h.elim) (p := ⟨v, 1, none⟩) (fun _ => rfl) _⟩

set_option maxRecDepth 100000 in
set_option maxHeartbeats 1600000 in
theorem exists_yes (hA : w.cell? ⟨AB, 0, none⟩ = some (addF OB)) (hV : w.cell? ⟨VB, 0, none⟩ = some (.pointer (some ⟨v, 0, none⟩))) (hv : VW w v x true) (hi : IdxU 0 w x u l) (hl : l.length ≤ 100000)
    (hb : Blk w OB 50 #[vo]) (ho : Own rspE 53 base w vo lo) (hlo : lo.length ≤ 100000) (hbase : base ≤ w.heap.size) (hAn : AB ≠ OB) (hVn : VB ≠ OB) (hAo : vo.ownBlock ≠ some AB) (hVo : vo.ownBlock ≠ some VB) :
    Calls Tryz.prog 175 #[.pointer (some ⟨AB, 0, none⟩), .pointer (some ⟨VB, 0, none⟩)] w fun e w' => e = .returned (.tuple #[]) ∧ VW w' v x false ∧ ∃ vo', Blk w' OB 50 #[vo'] ∧ Own rspE 53 base w' vo' (lo ++ [existsR l.length]) ∧ Fr (fun k => k = v ∨ k = OB ∨ vo.ownBlock = some k) w w' ∧ (vo'.ownBlock = vo.ownBlock ∨ ∃ g, vo'.ownBlock = some g ∧ w.heap.size ≤ g) := by
  have hg : w.cell? ⟨v, 1, none⟩ = some (.bool true) := hv.cell 1
  have HI := Lib.hid hi
  have hvo : v ≠ OB := hv.ne_ hb (by decide)
  have hvw : vo.ownBlock ≠ some v := ho.blk_ne hv (by decide)
  have HB := Lib.hid hb
  have HO := Lib.hid ho
  clear hi hb ho
  go_enter Tryz.func175, Tryz.ntmps175
  go_wp2_with fail
  go_region_held3 (fun W => W.cell? ⟨AB, 0, none⟩ = some (addF OB) ∧ W.cell? ⟨VB, 0, none⟩ = some (.pointer (some ⟨v, 0, none⟩)) ∧ W.cell? ⟨v, 1, none⟩ = some (.bool true)) (first | go_keep | (refine ⟨?_, ?_, ?_⟩ <;> assumption)) ((first
    | (go_at_call 96
       refine (vlen_any (Fr.blk (S := fun _ => False) (by repeat' first | exact New.refl _ | assumption | apply Fr.alloc | apply Fr.drewN | apply Fr.drew) hv id) (HI.out.new (by repeat' first | exact New.refl _ | assumption | apply Fr.alloc | apply Fr.drewN | apply Fr.drew))).mono ?_
       rintro e w1 ⟨rfl, rfl⟩)
    | (go_at_call 95
       refine (count_rsp 1 l.length (by omega) _).mono ?_
       rintro e w2 ⟨rfl, m2⟩
       have n2 : New w w2 := Fr.trans (by repeat' first | exact New.refl _ | assumption | apply Fr.alloc | apply Fr.drewN | apply Fr.drew) m2
       have p0 : w2.cell? ⟨AB, 0, none⟩ = some (addF OB) := Fr.cell n2 hA id
       have p1 : w2.cell? ⟨VB, 0, none⟩ = some (.pointer (some ⟨v, 0, none⟩)) := Fr.cell n2 hV id
       have p2 : w2.cell? ⟨v, 1, none⟩ = some (.bool true) := Fr.cell n2 hg id)
    | (go_at_call 174
       refine (add_yes (existsR l.length) (HB.out |> fun h => Fr.blk (S := fun _ => False) n2 h id) (HO.out.new n2) hlo (Nat.le_trans hbase n2.size)).mono ?_
       rintro e w3 ⟨rfl, vo', hb3, ho3, f3, st3⟩
       have n3 : Fr (fun k => k = OB ∨ vo.ownBlock = some k) w w3 := Fr.trans (New.to n2) f3
       have q0 : w3.cell? ⟨AB, 0, none⟩ = some (addF OB) := Fr.cell n3 hA (fun h => by rcases h with h | h; exact hAn h; exact hAo h)
       have q1 : w3.cell? ⟨VB, 0, none⟩ = some (.pointer (some ⟨v, 0, none⟩)) := Fr.cell n3 hV (fun h => by rcases h with h | h; exact hVn h; exact hVo h)
       have hv3 := n3.blk hv (fun h => by rcases h with h | h; exact hvo h; exact hvw h)
       have q2 : w3.cell? ⟨v, 1, none⟩ = some (.bool true) := hv3.cell 1
       have q3 : w3.frozen? ⟨v, 1, none⟩ = false := hv3.frozen 1
       have HB3 := Lib.hid hb3
       have HO3 := Lib.hid ho3
       have HS3 := Lib.hid st3
       clear hb3 ho3 f3 st3)
    | fail))
  go_wp2
  go_end0
  refine ⟨rfl, hv3.set_ 1 _, vo', HB3.out.far (p := ⟨v, 1, none⟩) (Ne.symm hvo) _, HO3.out.fr ((One.refl v w3).set 1 (.bool false)) (fun k hk e => ?_), Fr.setCell (n3.mono fun _ _ h => .inr h) (p := ⟨v, 1, none⟩) (fun _ => .inl rfl) _, ?_⟩
  · have e : k = v := e
    exact HO3.out.blk_ne hv3 (by decide) (by rw [← e]; exact hk)
  · rcases HS3.out with h | ⟨k, h1, h2⟩
    · exact .inl h
    · exact .inr ⟨k, h1, Nat.le_trans n2.size h2⟩
end
end Go.Proofs.YtliimglbbiebiaaGreatDoor
end

