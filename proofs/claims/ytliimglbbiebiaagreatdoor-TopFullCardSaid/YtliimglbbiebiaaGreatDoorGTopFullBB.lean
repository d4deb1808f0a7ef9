/- A part of the proof: Task7, TaskN, Sched1, Sched2, Sched3, RoundQ. -/
import Derived.Test.YtliimglbbiebiaaGreatDoorGTopFullBA
import Derived.Test.YtliimglbbiebiaaGreatDoorGTopFullAC
import Derived.Test.YtliimglbbiebiaaGreatDoorGTopFullAW
import Derived.Sort.QuietIn
import Derived.OwnWalkIn

section
/- task: next and Step, at one NOOP. -/
namespace Go.Proofs.YtliimglbbiebiaaGreatDoor
open Go.RowKit

section
variable {w : World} {t : Nat} {bz : Bool} {c : Cmd} {ms : ByteArray} {nd : Value} {x sp lk : Nat} {a b : Int} {ah out : Value}

theorem next1_any (w : World) : Calls Tryz.prog 107 #[] w fun e w' => e = .returned (.tuple #[]) ∧ w' = w := by
  go_enter Tryz.func107, Tryz.ntmps107
  go_wp2
  go_end0
  exact ⟨rfl, rfl⟩

set_option maxRecDepth 100000 in
set_option maxHeartbeats 1600000 in
theorem next_done (h : Tsk w t false c ms nd x sp lk a b (.slice none 0 0) out) (bx : Value) (sid : Int) (pv : Option Addr) (hs : Ses w x bx sid pv false) (v : Value) (hv : Emp v) (hsp : Spl w sp v) :
    Calls Tryz.prog 79 #[.pointer (some ⟨t, 0, none⟩)] w fun e w' => e = .returned (.tuple #[.int .i64 0, .func (.func 107) #[] #[]]) ∧ One sp w w' ∧ Spl w' sp v := by
  obtain ⟨k0, k1, k2, k3, k4, k5, k6, k7, k8, k9, k10, k11, k12, k13, k14, k15, k16, k17, k18⟩ := h.all19
  have hpk := peek_empty h v hv hsp
  have HPK := Lib.hid hpk
  clear hpk
  go_enter Tryz.func79, Tryz.ntmps79
  go_wp2_with fail
  refine (xdone_any x bx sid pv false w hs).mono ?_
  rintro e w1 ⟨rfl, rfl⟩
  go_wp2_with fail
  refine HPK.out.mono ?_
  rintro e w2 ⟨rfl, o2, s2⟩
  have o3 := o2.alloc (.cells #[.int .i64 0, .slice none 0 0] 174)
  have s3 := s2.alloc (.cells #[.int .i64 0, .slice none 0 0] 174)
  go_wp2
  go_ret2
  exact ⟨rfl, o3, s3⟩

set_option maxRecDepth 100000 in
set_option maxHeartbeats 1600000 in
theorem next_exec (h : Tsk w t true c ms (.slice none 0 0) x sp lk a b ah out) (bx : Value) (sid : Int) (pv : Option Addr) (dn : Bool) (hs : Ses w x bx sid pv dn) {bm : Nat} {O : List Int} {N : Int} (hL : Tab w lk bm O N) :
    Calls Tryz.prog 79 #[.pointer (some ⟨t, 0, none⟩)] w fun e w' => e = .returned (.tuple #[.int .i64 3, .func (.func 112) #[.pointer (some ⟨t, 0, none⟩)] #[]]) ∧ New w w' := by
  obtain ⟨k0, k1, k2, k3, k4, k5, k6, k7, k8, k9, k10, k11, k12, k13, k14, k15, k16, k17, k18⟩ := h.all19
  have hmf : ∀ (fn : Fn) (first cap : Array Value) (w : World), (Instr.makeFunc fn first cap).run Tryz.prog w = .ok (.func fn first cap) w := fun _ _ _ _ => rfl
  have hw := wants_any h bx sid pv dn hs hL [] (Rd.nil _ _) (by simp) (by simp)
  have HW := Lib.hid hw
  clear hw
  go_enter Tryz.func79, Tryz.ntmps79
  go_wp2_with fail
  refine HW.out.mono ?_
  rintro e w1 ⟨v, rfl, hv, n1⟩
  obtain ⟨A, C, rfl, _⟩ := hv.form
  have hv0 : (List.filter (fun k => !(heldP O sid).contains k) ([] : List Int)).length = 0 := rfl
  go_wp2
  go_ret2
  exact ⟨rfl, n1⟩

set_option maxRecDepth 100000 in
set_option maxHeartbeats 1600000 in
theorem next_begin (h : Tsk w t false c ms nd x sp lk a b (.slice none 0 0) out) (bx : Value) (sid : Int) (pv : Option Addr) (hs : Ses w x bx sid pv false) (g off c' : Nat) (y : UInt8) (hy : y = 97 ∨ y = 98) (hc : 8 ≤ c') (hgs : g ≠ sp) (hglt : g < w.heap.size) (hsp : Spl w sp (.slice (some ⟨g, off, none⟩) 8 c')) (hb : Bts w g off (wholeL y)) (hts : t ≠ sp) (hT : Tabs w) (hT' : ∀ w', One sp w w' → Tabs w') :
    Calls Tryz.prog 79 #[.pointer (some ⟨t, 0, none⟩)] w fun e w' => e = .returned (.tuple #[.int .i64 2, .func (.func 110) #[.pointer (some ⟨t, 0, none⟩)] #[]]) ∧ ∃ ah v, Fr (fun k => k = t ∨ k = sp) w w' ∧ Tsk w' t false c ms nd x sp lk a b ah out ∧ Spl w' sp v ∧ Emp v ∧
      ∃ dA dC, Own frmE 174 w.heap.size w' ah [⟨1, dA, 6, dC⟩] ∧ Own (intE .u8) 5 w.heap.size w' (.slice dA 6 dC) (nums (lineL y)) := by
  obtain ⟨k0, k1, k2, k3, k4, k5, k6, k7, k8, k9, k10, k11, k12, k13, k14, k15, k16, k17, k18⟩ := h.all19
  have hmf : ∀ (fn : Fn) (first cap : Array Value) (w : World), (Instr.makeFunc fn first cap).run Tryz.prog w = .ok (.func fn first cap) w := fun _ _ _ _ => rfl
  have hpk := peek_line h g off c' y hy hc hgs hglt hsp hb hts hT hT'
  have HPK := Lib.hid hpk
  clear hpk hT'
  go_enter Tryz.func79, Tryz.ntmps79
  go_wp2_with fail
  refine (xdone_any x bx sid pv false w hs).mono ?_
  rintro e w1 ⟨rfl, rfl⟩
  go_wp2_with fail
  refine HPK.out.mono ?_
  rintro e w2 ⟨d, ah, v, rfl, f2, t2, s2, hv, dA, dC, rfl, ho2, hd2⟩
  have f3 := f2.alloc (.cells #[.int .i64 1, .slice dA 6 dC] 174)
  have t3 := t2.alloc (.cells #[.int .i64 1, .slice dA 6 dC] 174)
  have s3 := s2.alloc (.cells #[.int .i64 1, .slice dA 6 dC] 174)
  have ho3 := ho2.alloc (.cells #[.int .i64 1, .slice dA 6 dC] 174)
  have hd3 := hd2.alloc (.cells #[.int .i64 1, .slice dA 6 dC] 174)
  go_wp2
  go_ret2
  exact ⟨rfl, ah, v, f3, t3, s3, hv, dA, dC, ho3, hd3⟩

/-! Step -/
set_option maxHeartbeats 800000 in
theorem step_done (h : Tsk w t false c ms nd x sp lk a b (.slice none 0 0) out) (bx : Value) (sid : Int) (pv : Option Addr) (hs : Ses w x bx sid pv false) (v : Value) (hv : Emp v) (hsp : Spl w sp v) :
    Calls Tryz.prog 54 #[.pointer (some ⟨t, 0, none⟩)] w fun e w' => e = .returned (.int .i64 0) ∧ One sp w w' ∧ Spl w' sp v := by
  have HN := Lib.hid (next_done h bx sid pv hs v hv hsp)
  go_enter Tryz.func54, Tryz.ntmps54
  go_wp2_with fail
  refine HN.out.mono ?_
  rintro e w1 ⟨rfl, o1, s1⟩
  go_wp2_with fail
  refine (next1_any w1).mono ?_
  rintro e w2 ⟨rfl, rfl⟩
  go_wp2
  go_ret
  exact ⟨rfl, o1, s1⟩

set_option maxHeartbeats 800000 in
theorem step_exec (y : UInt8) (hy : y = 97 ∨ y = 98) (h : Tsk w t true (noopCmd y) ⟨#[]⟩ (.slice none 0 0) x sp lk a b (.slice none 0 0) (.slice none 0 0)) (bx : Value) (sid : Int) (hs : Ses w x bx sid none false)
    {bm : Nat} {O : List Int} {N : Int} (hL : Tab w lk bm O N) (hO : relO O sid = O) (hT : Tabs w) :
    Calls Tryz.prog 54 #[.pointer (some ⟨t, 0, none⟩)] w fun e w' => e = .returned (.int .i64 3) ∧ ∃ out, Tsk w' t false cmdZ ⟨#[]⟩ (.slice none 0 0) x sp lk a b (.slice none 0 0) out ∧ Own (intE .u8) 5 w.heap.size w' out (noopOut y) ∧ Tab w' lk bm O N ∧ Fr (fun k => k = t ∨ k = lk ∨ k = bm) w w' := by
  have HN := Lib.hid (next_exec (c := noopCmd y) h bx sid none false hs hL)
  have HT := Lib.hid hT
  have HL := Lib.hid hL
  clear hT hL
  go_enter Tryz.func54, Tryz.ntmps54
  go_wp2_with fail
  refine HN.out.mono ?_
  rintro e w1 ⟨rfl, n1⟩
  have HE := Lib.hid (execute_noop y hy (n1.blk h) bx sid (n1.blk hs) (HL.out.new n1) hO (HT.out.new n1))
  go_wp2_with fail
  refine HE.out.mono ?_
  rintro e w2 ⟨rfl, out, h2, ho2, hL2, f2⟩
  go_wp2
  go_ret
  exact ⟨rfl, out, h2, ho2.mono n1.size, hL2, Fr.trans (n1.mono fun _ _ h => h.elim) f2⟩

set_option maxHeartbeats 800000 in
theorem step_begin (h : Tsk w t false c ms nd x sp lk a b (.slice none 0 0) out) (bx : Value) (sid : Int) (hs : Ses w x bx sid none false) (g off c' : Nat) (y : UInt8) (hy : y = 97 ∨ y = 98) (hc : 8 ≤ c') (hgs : g ≠ sp) (hglt : g < w.heap.size) (hsp : Spl w sp (.slice (some ⟨g, off, none⟩) 8 c')) (hb : Bts w g off (wholeL y)) (hts : t ≠ sp)
    (h0 : 0 ≤ a) (ha : a ≠ 0) (h1 : a ≤ 1000) (h3 : b ≤ 1000) (hi0 : 0 ≤ sid) (hi1 : sid < b) (hT : ∀ w', Fr (fun k => k = t ∨ k = sp) w w' → Tabs w') :
    Calls Tryz.prog 54 #[.pointer (some ⟨t, 0, none⟩)] w fun e w' => e = .returned (.int .i64 2) ∧ ∃ v, Fr (fun k => k = t ∨ k = sp) w w' ∧ Tsk w' t true (noopCmd y) ⟨#[]⟩ (.slice none 0 0) x sp lk a b (.slice none 0 0) out ∧ Spl w' sp v ∧ Emp v := by
  have HN := Lib.hid (next_begin h bx sid none hs g off c' y hy hc hgs hglt hsp hb hts (hT w (Fr.refl _ _)) (fun w' o => hT w' (o.mono fun _ _ e => .inr e)))
  have hxt : x ≠ t := hs.ne_ h (by decide)
  have hxs : x ≠ sp := hs.ne_ hsp (by decide)
  have HT := Lib.hid hT
  clear hT
  go_enter Tryz.func54, Tryz.ntmps54
  go_wp2_with fail
  refine HN.out.mono ?_
  rintro e w1 ⟨rfl, ah, v, f1, t1, s1, hv, dA, dC, ho1, hd1⟩
  have hs1 := f1.blk hs (by rintro (e | e); exact hxt e; exact hxs e)
  have HB := Lib.hid (begin_line t1 bx sid false hs1 w.heap.size w.heap.size y hy dA dC ho1 hd1 h0 ha h1 h3 hi0 hi1 (HT.out _ f1) (fun w' o => HT.out _ (f1.trans (o.mono fun _ _ e => .inl e))))
  go_wp2_with fail
  refine HB.out.mono ?_
  rintro e w2 ⟨rfl, o2, t2⟩
  have s2 := o2.blk s1 (Ne.symm hts)
  go_wp2
  go_ret
  exact ⟨rfl, v, f1.trans (o2.mono fun _ _ e => .inl e), t2, s2, hv⟩
end
end Go.Proofs.YtliimglbbiebiaaGreatDoor
end

section
/- task.New. -/
namespace Go.Proofs.YtliimglbbiebiaaGreatDoor
open Go.RowKit

set_option maxRecDepth 100000 in
set_option maxHeartbeats 3200000 in
theorem tasknew_any (st : Addr) (lk : Nat) (a b i : Int) (h0 : 0 ≤ a) (h1 : a ≤ 1000) (hb1 : b = 2) (hi0 : 0 ≤ i) (hi1 : i < b) (w : World) {bm : Nat} {O : List Int} {N : Int} (hL : Tab w lk bm O N) (hOl : (O.length : Int) = 1 + a + b)
    (hst : ∀ W, New w W → Calls Tryz.prog 49 #[.pointer (some st)] W fun e W' => e = .returned (.int .i64 a) ∧ W' = W) :
    Calls Tryz.prog 29 #[.pointer (some st), .pointer (some ⟨lk, 0, none⟩), .int .i64 b, .int .i64 i] w fun e w' => ∃ t x sp, e = .returned (.pointer (some ⟨t, 0, none⟩)) ∧ New w w' ∧ w.heap.size ≤ t ∧ w.heap.size ≤ x ∧ w.heap.size ≤ sp ∧ t < w'.heap.size ∧
      Tsk w' t false cmdZ ⟨#[]⟩ (.slice none 0 0) x sp lk a b (.slice none 0 0) (.slice none 0 0) ∧ Ses w' x (.pointer (some st)) i none false ∧ Spl w' sp (.slice none 0 0) := by
  subst hb1
  have HL := Lib.hid hL
  have HS := Lib.hid (hst w (New.refl w))
  clear hL hst
  go_enter Tryz.func29, Tryz.ntmps29
  go_wp2_with fail
  refine HS.out.mono ?_
  rintro e w1 ⟨rfl, rfl⟩
  have n2 : New w1 (w1.alloc (.cells #[.int .i64 a, .int .i64 2] 65)) := (New.refl w1).alloc _
  have g2 := Blk.new w1 65 #[.int .i64 a, .int .i64 2]
  generalize hwA : (w1.alloc (.cells #[.int .i64 a, .int .i64 2] 65)) = wA at *
  obtain ⟨k0, k1⟩ := g2.all2
  go_wp2_with fail
  have hS2 := n2.size
  go_region_held3 (fun W => W.cell? ⟨w1.heap.size, 0, none⟩ = some (.int .i64 a) ∧ W.cell? ⟨w1.heap.size, 1, none⟩ = some (.int .i64 2)) (first | go_keep | (refine ⟨?_, ?_⟩ <;> assumption)) ((first
    | (go_at_call 50
       refine (llen_any ((HL.out.new n2).new (by repeat' first | exact New.refl _ | apply Fr.alloc | apply Fr.drewN | apply Fr.drew))).mono ?_
       rintro e w3 ⟨rfl, rfl⟩)
    | (go_at_call 27
       refine (count_any a 2 h0 h1 (by omega) (by omega) _).mono ?_
       rintro e w3 ⟨rfl, m3⟩
       have n3 : New wA w3 := Fr.trans (by repeat' first | exact New.refl _ | apply Fr.alloc | apply Fr.drewN | apply Fr.drew) m3
       have g3 := n3.blk g2
       obtain ⟨p0, p1⟩ := g3.all2)
    | fail))
  all_goals
    have n4 := n2.trans n3
    clear k0 k1 p0 p1 m3 n3 g2 hS2 hwA
    obtain ⟨k0, k1⟩ := g3.all2
    go_wp2_with fail
    refine (queue_any a 2 i h0 h1 (by omega) hi0 hi1 w3).mono ?_
    rintro e w5 ⟨rfl, m5⟩
    have g5 := m5.blk g3
    have n5 := n4.trans m5
    clear k0 k1 g3 m5 n4
    obtain ⟨k0, k1⟩ := g5.all2
    go_wp2_with fail
    go_region_held3 (fun W => W.cell? ⟨w1.heap.size, 0, none⟩ = some (.int .i64 a) ∧ W.cell? ⟨w1.heap.size, 1, none⟩ = some (.int .i64 2)) (first | go_keep | (refine ⟨?_, ?_⟩ <;> assumption)) ((first
      | (go_at_call 16
         refine (xnew_any st i hi0 _).mono ?_
         rintro e w6 ⟨rfl, rfl⟩
         have n6 : New w5 (w5.drew.alloc (.cells #[.pointer (some st), .int .i64 i, .pointer none, .bool false] 98)) := ((New.refl w5).drew).alloc _
         have x6 := Blk.new w5.drew 98 #[.pointer (some st), .int .i64 i, .pointer none, .bool false]
         rw [World.size_drew] at x6
         generalize (w5.drew.alloc (.cells #[.pointer (some st), .int .i64 i, .pointer none, .bool false] 98)) = w6 at *
         have g6 := n6.blk g5
         obtain ⟨p0, p1⟩ := g6.all2)
      | (go_at_call 52
         refine (fnew_any _).mono ?_
         rintro e w7 ⟨rfl, rfl⟩
         have n7 : New w6 (w6.alloc (.cells #[.slice none 0 0, .int .i64 0, .int .i64 0, .int .i64 0] 176)) := (New.refl w6).alloc _
         have s7 := Blk.new w6 176 #[.slice none 0 0, .int .i64 0, .int .i64 0, .int .i64 0]
         have l6 := n6.size
         have l7 : (w6.alloc (.cells #[.slice none 0 0, .int .i64 0, .int .i64 0, .int .i64 0] 176)).heap.size = w6.heap.size + 1 := by rw [World.size_alloc]
         have L7 := Lib.hid l7
         clear l7
         generalize (w6.alloc (.cells #[.slice none 0 0, .int .i64 0, .int .i64 0, .int .i64 0] 176)) = w7 at *
         have x7 := n7.blk x6
         have g7 := n7.blk g6
         obtain ⟨q0, q1⟩ := g7.all2)
      | fail))
    all_goals
      go_wp2
      go_ret
      have z5 := n5.size
      have z7 := n7.size
      refine ⟨w7.heap.size, w5.heap.size, w6.heap.size, rfl, ((n5.trans n6).trans n7).alloc _, by omega, by omega, by omega, by rw [World.size_alloc]; omega, Blk.new _ _ _, x7.alloc _, s7.alloc _⟩
end Go.Proofs.YtliimglbbiebiaaGreatDoor
end

section
/- sched: a session's phases at one NOOP, Step, pick. -/
namespace Go.Proofs.YtliimglbbiebiaaGreatDoor
open Go.RowKit

/-- A session at one NOOP: not begun (0), begun (1), executed (2). -/
structure Sess (B : Nat) (w : World) (bx : Value) (i : Int) (y : UInt8) (t x sp lk ph : Nat) : Prop where
  lt : B ≤ t
  lx : B ≤ x
  ls : B ≤ sp
  ses : Ses w x bx i none false
  p0 : ph = 0 → Tsk w t false cmdZ ⟨#[]⟩ (.slice none 0 0) x sp lk 2 2 (.slice none 0 0) (.slice none 0 0) ∧ ∃ v, Spl w sp v ∧ Own (intE .u8) 5 B w v (nums (wholeL y))
  p1 : ph = 1 → Tsk w t true (noopCmd y) ⟨#[]⟩ (.slice none 0 0) x sp lk 2 2 (.slice none 0 0) (.slice none 0 0) ∧ ∃ v, Emp v ∧ Spl w sp v
  p2 : 2 ≤ ph → ∃ out v, Tsk w t false cmdZ ⟨#[]⟩ (.slice none 0 0) x sp lk 2 2 (.slice none 0 0) out ∧ Own (intE .u8) 5 B w out (noopOut y) ∧ Emp v ∧ Spl w sp v

section
variable {B : Nat} {w w' : World} {bx : Value} {i : Int} {y : UInt8} {t x sp lk ph : Nat} {S : Nat → Prop}
theorem Sess.fr (h : Sess B w bx i y t x sp lk ph) (hf : Fr S w w') (ht : ¬ S t) (hx : ¬ S x) (hs : ¬ S sp) (hu : ∀ k, S k → ∀ cs, ¬ Blk w k 5 cs) : Sess B w' bx i y t x sp lk ph := by
  have ho : ∀ {v l}, Own (intE .u8) 5 B w v l → Own (intE .u8) 5 B w' v l := fun ho => ho.fr hf fun g hg hS => by
    obtain ⟨cs, hcs⟩ := ho.heap hg
    exact hu g hS cs hcs
  refine ⟨h.lt, h.lx, h.ls, hf.blk h.ses hx, fun e => ?_, fun e => ?_, fun e => ?_⟩
  · obtain ⟨h1, v, h2, h3⟩ := h.p0 e
    exact ⟨hf.blk h1 ht, v, hf.blk h2 hs, ho h3⟩
  · obtain ⟨h1, v, h2, h3⟩ := h.p1 e
    exact ⟨hf.blk h1 ht, v, h2, hf.blk h3 hs⟩
  · obtain ⟨out, v, h1, h2, h3, h4⟩ := h.p2 e
    exact ⟨out, v, hf.blk h1 ht, ho h2, h3, hf.blk h4 hs⟩
theorem Sess.new (h : Sess B w bx i y t x sp lk ph) (hf : New w w') : Sess B w' bx i y t x sp lk ph := h.fr hf id id id fun _ h => h.elim
theorem Sess.tsk (h : Sess B w bx i y t x sp lk ph) : ∃ cs, Blk w t 131 cs := by
  rcases ph with _ | _ | n
  · exact ⟨_, (h.p0 rfl).1⟩
  · exact ⟨_, (h.p1 rfl).1⟩
  · obtain ⟨out, v, h1, _⟩ := h.p2 (by omega)
    exact ⟨_, h1⟩
theorem Sess.spl (h : Sess B w bx i y t x sp lk ph) : ∃ cs, Blk w sp 176 cs := by
  rcases ph with _ | _ | n
  · obtain ⟨_, v, h2, _⟩ := h.p0 rfl
    exact ⟨_, h2⟩
  · obtain ⟨_, v, _, h2⟩ := h.p1 rfl
    exact ⟨_, h2⟩
  · obtain ⟨out, v, _, _, _, h2⟩ := h.p2 (by omega)
    exact ⟨_, h2⟩

def resP (ph : Nat) : Int := if ph = 0 then 2 else if ph = 1 then 3 else 0
def nxtP (ph : Nat) : Nat := if ph = 0 then 1 else 2

variable {bm : Nat} {O : List Int} {N : Int}
set_option maxHeartbeats 800000 in
theorem sess_step (hy : y = 97 ∨ y = 98) (h : Sess B w bx i y t x sp lk ph) (hL : Tab w lk bm O N) (hO : relO O i = O) (hi0 : 0 ≤ i) (hi1 : i < 2) (hT : ∀ w', Fr (fun k => B ≤ k) w w' → Tabs w') :
    Calls Tryz.prog 54 #[.pointer (some ⟨t, 0, none⟩)] w fun e w' => e = .returned (.int .i64 (resP ph)) ∧ Sess B w' bx i y t x sp lk (nxtP ph) ∧ Tab w' lk bm O N ∧ Fr (fun k => k = t ∨ k = sp ∨ k = lk ∨ k = bm) w w' := by
  obtain ⟨ct, ht⟩ := h.tsk
  obtain ⟨cp, hsp⟩ := h.spl
  have nts : t ≠ sp := ht.ne_ hsp (by decide)
  have nxt : x ≠ t := h.ses.ne_ ht (by decide)
  have nxs : x ≠ sp := h.ses.ne_ hsp (by decide)
  have nlt : lk ≠ t := hL.blk.ne_ ht (by decide)
  have nls : lk ≠ sp := hL.blk.ne_ hsp (by decide)
  have nxl : x ≠ lk := h.ses.ne_ hL.blk (by decide)
  obtain ⟨ml, hml, _⟩ := hL.map
  have nbt : bm ≠ t := hml.ne_blk ht
  have nbs : bm ≠ sp := hml.ne_blk hsp
  have nbx : bm ≠ x := hml.ne_blk h.ses
  by_cases e0 : ph = 0
  · subst e0
    obtain ⟨h1, v, h2, h3⟩ := h.p0 rfl
    obtain ⟨g, off, c', rfl, hc', hbt, hob, hg0, hg1⟩ := own_bts h3 (by simp [wholeL])
    have ngs : g ≠ sp := fun e => h3.blk_ne hsp (by decide) (by rw [← e]; exact hob)
    refine (step_begin h1 bx i h.ses g off c' y hy hc' ngs hg1 h2 hbt nts (by omega) (by omega) (by omega) (by omega) hi0 hi1 (fun w' f => hT w' (f.mono fun k _ hk => by rcases hk with rfl | rfl; exact h.lt; exact h.ls))).mono ?_
    rintro e w1 ⟨rfl, v1, f1, t1, s1, hv1⟩
    refine ⟨rfl, ⟨h.lt, h.lx, h.ls, f1.blk h.ses (by rintro (e | e); exact nxt e; exact nxs e), fun e => (by cases e), fun _ => ⟨t1, v1, hv1, s1⟩, fun e => (by simp [nxtP] at e)⟩, hL.fr f1 (by rintro (e | e); exact nlt e; exact nls e) (by rintro (e | e); exact nbt e; exact nbs e), f1.mono fun k _ hk => by rcases hk with hk | hk; exact .inl hk; exact .inr (.inl hk)⟩
  by_cases e1 : ph = 1
  · subst e1
    obtain ⟨h1, v, hv, h2⟩ := h.p1 rfl
    refine (step_exec y hy h1 bx i h.ses hL hO (hT w (Fr.refl _ _))).mono ?_
    rintro e w1 ⟨rfl, out, t1, ho1, hL1, f1⟩
    refine ⟨rfl, ⟨h.lt, h.lx, h.ls, f1.blk h.ses (by rintro (e | e | e); exact nxt e; exact nxl e; exact nbx e.symm), fun e => (by cases e), fun e => (by cases e), fun _ => ⟨out, v, t1, ho1.mono (by have := ht.lt; have := h.lt; omega), hv, f1.blk h2 (by rintro (e | e | e); exact nts e.symm; exact nls e.symm; exact nbs e.symm)⟩⟩, hL1, f1.mono fun k _ hk => by rcases hk with hk | hk | hk; exact .inl hk; exact .inr (.inr (.inl hk)); exact .inr (.inr (.inr hk))⟩
  · obtain ⟨out, v, h1, ho, hv, h2⟩ := h.p2 (by omega)
    have er : resP ph = 0 := by simp [resP, e0, e1]
    have en : nxtP ph = 2 := by simp [nxtP, e0]
    rw [er, en]
    refine (step_done h1 bx i none h.ses v hv h2).mono ?_
    rintro e w1 ⟨rfl, o1, s1⟩
    refine ⟨rfl, ⟨h.lt, h.lx, h.ls, o1.blk h.ses nxs, fun e => (by cases e), fun e => (by cases e), fun _ => ⟨out, v, o1.blk h1 nts, ho.fr o1 fun g hg e => ho.blk_ne hsp (by decide) (by rw [← e]; exact hg), hv, s1⟩⟩, hL.fr o1 nls nbs, o1.mono fun k _ hk => .inr (.inl hk)⟩
end

/-! The server. -/
def ptE : Elem Nat := Elem.one1 (fun t => .pointer (some ⟨t, 0, none⟩)) fun _ => rfl
def yOf (i : Nat) : UInt8 := if i = 0 then 97 else 98

/-- A zone of blocks, from z0 up to z1, that no step turns. -/
abbrev Zn (B z0 z1 : Nat) (w : World) (k : Nat) : Prop := B ≤ k ∧ (k < z0 ∨ (z1 ≤ k ∧ ∃ cs, Blk w k 3 cs))

structure Srv (B z0 z1 : Nat) (w : World) (s lk bm : Nat) (O : List Int) (N : Int) (bx : Value) (T X P ph : Nat → Nat) (ord : List Int) : Prop where
  blk : ∃ tv ov, Blk w s 73 #[bx, .pointer (some ⟨lk, 0, none⟩), tv, ov, .int .i64 16] ∧ Own ptE 74 B w tv [T 0, T 1] ∧ Own (intE .i64) 3 B w ov ord ∧ ∀ g, ov.ownBlock = some g → g < z0 ∨ z1 ≤ g
  ss : ∀ i : Nat, i < 2 → Sess B w bx i (yOf i) (T i) (X i) (P i) lk (ph i)
  tab : Tab w lk bm O N
  oo : ∀ i : Nat, i < 2 → relO O i = O
  nT : T 0 ≠ T 1
  nX : X 0 ≠ X 1
  nP : P 0 ≠ P 1
  ls : B ≤ s
  ll : B ≤ lk
  lb : B ≤ bm
  lB : B ≤ w.heap.size
  zs : s < z0
  zl : lk < z0
  zb : bm < z0
  zT : ∀ i : Nat, i < 2 → T i < z0 ∧ P i < z0
  zw : z1 ≤ w.heap.size
  z01 : z0 ≤ z1

section
variable {B z0 z1 : Nat} {w w' : World} {bx : Value} {s lk bm : Nat} {O : List Int} {N : Int} {T X P ph : Nat → Nat} {ord : List Int}

def updP (ph : Nat → Nat) (i : Nat) : Nat → Nat := fun j => if j = i then nxtP (ph i) else ph j

theorem Srv.fr {S : Nat → Prop} (h : Srv B z0 z1 w s lk bm O N bx T X P ph ord) (hf : Fr S w w') (hS : ∀ k, S k → ∀ e cs, ¬ Blk w k e cs) (hm : ¬ S bm) : Srv B z0 z1 w' s lk bm O N bx T X P ph ord := by
  obtain ⟨tv, ov, h1, h2, h3, hz⟩ := h.blk
  have hB : ∀ {g : Nat} {e cs}, Blk w g e cs → ¬ S g := fun hb hk => hS _ hk _ _ hb
  refine ⟨⟨tv, ov, hf.blk h1 (hB h1), h2.fr hf fun g hg hk => ?_, h3.fr hf fun g hg hk => ?_, hz⟩, fun i hi => ?_, h.tab.fr hf (hB h.tab.blk) hm, h.oo, h.nT, h.nX, h.nP, h.ls, h.ll, h.lb, Nat.le_trans h.lB hf.size, h.zs, h.zl, h.zb, h.zT, Nat.le_trans h.zw hf.size, h.z01⟩
  · obtain ⟨cs, hcs⟩ := h2.heap hg
    exact hB hcs hk
  · obtain ⟨cs, hcs⟩ := h3.heap hg
    exact hB hcs hk
  · have hj' := h.ss i hi
    obtain ⟨ct', ht'⟩ := hj'.tsk
    obtain ⟨cp', hp'⟩ := hj'.spl
    exact hj'.fr hf (hB ht') (hB hj'.ses) (hB hp') fun k hk cs hb => hS k hk _ _ hb
theorem Srv.new (h : Srv B z0 z1 w s lk bm O N bx T X P ph ord) (hf : New w w') : Srv B z0 z1 w' s lk bm O N bx T X P ph ord := by
  obtain ⟨tv, ov, h1, h2, h3, hz⟩ := h.blk
  exact ⟨⟨tv, ov, hf.blk h1, h2.new hf, h3.new hf, hz⟩, fun i hi => (h.ss i hi).new hf, h.tab.new hf, h.oo, h.nT, h.nX, h.nP, h.ls, h.ll, h.lb, Nat.le_trans h.lB hf.size, h.zs, h.zl, h.zb, h.zT, Nat.le_trans h.zw hf.size, h.z01⟩

theorem Srv.step (h : Srv B z0 z1 w s lk bm O N bx T X P ph ord) (i : Nat) (hi : i < 2) (f : Fr (fun k => k = T i ∨ k = P i ∨ k = lk ∨ k = bm) w w')
    (s1 : Sess B w' bx i (yOf i) (T i) (X i) (P i) lk (nxtP (ph i))) (L1 : Tab w' lk bm O N) : Srv B z0 z1 w' s lk bm O N bx T X P (updP ph i) ord ∧ Fr (fun k => B ≤ k ∧ k < z0) w w' := by
  obtain ⟨tv, ov, h1, h2, h3, hz⟩ := h.blk
  obtain ⟨ct, ht⟩ := (h.ss i hi).tsk
  obtain ⟨cp, hp⟩ := (h.ss i hi).spl
  obtain ⟨ml, hml, _⟩ := h.tab.map
  have hl := h.tab.blk
  have hB := h.lB
  have hcell : ∀ k, (k = T i ∨ k = P i ∨ k = lk ∨ k = bm) → ∀ e cs, e ≠ 131 → e ≠ 176 → e ≠ 120 → ¬ Blk w k e cs := by
    rintro k hk e cs e1 e2 e3 hb
    rcases hk with rfl | rfl | rfl | rfl
    · exact hb.ne_ ht e1 rfl
    · exact hb.ne_ hp e2 rfl
    · exact hb.ne_ hl e3 rfl
    · exact hml.ne_blk hb rfl
  have hown : ∀ {α : Type} {E : Elem α} {e : TypeId} {v : Value} {l : List α}, e ≠ 131 → e ≠ 176 → e ≠ 120 → Own E e B w v l → Own E e B w' v l := fun e1 e2 e3 ho => ho.fr f fun g hg hS => by
    obtain ⟨cs, hcs⟩ := ho.heap hg
    exact hcell g hS _ cs e1 e2 e3 hcs
  refine ⟨⟨⟨tv, ov, f.blk h1 (fun hk => hcell s hk _ _ (by decide) (by decide) (by decide) h1), hown (by decide) (by decide) (by decide) h2, hown (by decide) (by decide) (by decide) h3, hz⟩, fun j hj => ?_, L1, h.oo, h.nT, h.nX, h.nP, h.ls, h.ll, h.lb, Nat.le_trans hB f.size, h.zs, h.zl, h.zb, h.zT, Nat.le_trans h.zw f.size, h.z01⟩, f.mono fun k _ hk => ?_⟩
  · by_cases hji : j = i
    · subst hji
      unfold updP
      rw [if_pos rfl]
      exact s1
    · have eu : updP ph i j = ph j := by unfold updP; rw [if_neg hji]
      rw [eu]
      have hj' := h.ss j hj
      obtain ⟨ct', ht'⟩ := hj'.tsk
      obtain ⟨cp', hp'⟩ := hj'.spl
      have nT : T j ≠ T i := by
        obtain ⟨rfl, rfl⟩ | ⟨rfl, rfl⟩ : (i = 0 ∧ j = 1) ∨ (i = 1 ∧ j = 0) := by omega
        · exact h.nT.symm
        · exact h.nT
      have nP : P j ≠ P i := by
        obtain ⟨rfl, rfl⟩ | ⟨rfl, rfl⟩ : (i = 0 ∧ j = 1) ∨ (i = 1 ∧ j = 0) := by omega
        · exact h.nP.symm
        · exact h.nP
      refine hj'.fr f ?_ (fun hk => hcell _ hk _ _ (by decide) (by decide) (by decide) hj'.ses) ?_ (fun k hk cs hb => hcell k hk _ cs (by decide) (by decide) (by decide) hb)
      · rintro (e | e | e | e)
        · exact nT e
        · exact ht'.ne_ hp (by decide) e
        · exact ht'.ne_ hl (by decide) e
        · exact hml.ne_blk ht' e.symm
      · rintro (e | e | e | e)
        · exact hp'.ne_ ht (by decide) e
        · exact nP e
        · exact hp'.ne_ hl (by decide) e
        · exact hml.ne_blk hp' e.symm
  · rcases hk with rfl | rfl | rfl | rfl
    · exact ⟨(h.ss i hi).lt, (h.zT i hi).1⟩
    · exact ⟨(h.ss i hi).ls, (h.zT i hi).2⟩
    · exact ⟨h.ll, h.zl⟩
    · exact ⟨h.lb, h.zb⟩

/-- The order grows by one. -/
theorem Srv.push (h : Srv B z0 z1 w s lk bm O N bx T X P ph ord) {tv ov : Value} (h1 : Blk w s 73 #[bx, .pointer (some ⟨lk, 0, none⟩), tv, ov, .int .i64 16]) (h2 : Own ptE 74 B w tv [T 0, T 1]) (h3 : Own (intE .i64) 3 B w ov ord) (hz : ∀ g, ov.ownBlock = some g → g < z0 ∨ z1 ≤ g)
    {v2 : Value} {ord' : List Int} {w2 : World} (hv2 : Own (intE .i64) 3 B w2 v2 ord') (f : Fr (fun k => ov.ownBlock = some k) w w2) (hl : v2.ownBlock = ov.ownBlock ∨ v2.ownBlock = some w.heap.size ∨ ∃ g, v2.ownBlock = some g ∧ w.heap.size ≤ g) :
    Srv B z0 z1 (w2.setCell ⟨s, 3, none⟩ v2) s lk bm O N bx T X P ph ord' ∧ Fr (Zn B z0 z1 w) w (w2.setCell ⟨s, 3, none⟩ v2) := by
  obtain ⟨ml, hml, _⟩ := h.tab.map
  have hb2 := f.blk h1 (fun hk => h3.blk_ne h1 (by decide) hk)
  have ff : Fr (fun k => ov.ownBlock = some k ∨ k = s) w (w2.setCell ⟨s, 3, none⟩ v2) := Fr.setCell (f.mono fun _ _ h => .inl h) (fun _ => .inr rfl) _
  have hS : ∀ k cs e, (ov.ownBlock = some k ∨ k = s) → Blk w k e cs → e = 3 ∨ e = 73 := by
    rintro k cs e (hk | rfl) hb
    · obtain ⟨c2, hc2⟩ := h3.heap hk
      by_cases he : e = 3
      · exact .inl he
      · exact absurd rfl (hb.ne_ hc2 he)
    · by_cases he : e = 73
      · exact .inr he
      · exact absurd rfl (hb.ne_ h1 he)
  have hnot : ∀ k cs e, Blk w k e cs → e ≠ 3 → e ≠ 73 → ¬ (ov.ownBlock = some k ∨ k = s) := fun k cs e hb e1 e2 hk => by
    rcases hS k cs e hk hb with h | h
    · exact e1 h
    · exact e2 h
  refine ⟨⟨⟨tv, v2, hb2.set_ 3 _, ?_, ?_, ?_⟩, fun j hj => ?_, ?_, h.oo, h.nT, h.nX, h.nP, h.ls, h.ll, h.lb, Nat.le_trans h.lB ff.size, h.zs, h.zl, h.zb, h.zT, Nat.le_trans h.zw ff.size, h.z01⟩, ff.mono fun k _ hk => ?_⟩
  · exact h2.fr ff fun g hg hk => by
      obtain ⟨c2, hc2⟩ := h2.heap hg
      exact hnot g c2 _ hc2 (by decide) (by decide) hk
  · exact hv2.fr ((One.refl s w2).set 3 v2) fun g hg e => hv2.blk_ne hb2 (by decide) (by rw [← e]; exact hg)
  · intro g hg
    have := h.zw
    rcases hl with e | e | ⟨g', e, hg'⟩
    · exact hz g (by rw [← e]; exact hg)
    · rw [e] at hg; injection hg with hg; omega
    · rw [e] at hg; injection hg with hg; omega
  · have hj' := h.ss j hj
    obtain ⟨ct', ht'⟩ := hj'.tsk
    obtain ⟨cp', hp'⟩ := hj'.spl
    exact hj'.fr ff (hnot _ _ _ ht' (by decide) (by decide)) (hnot _ _ _ hj'.ses (by decide) (by decide)) (hnot _ _ _ hp' (by decide) (by decide)) (fun k hk cs hb => hnot k cs _ hb (by decide) (by decide) hk)
  · refine h.tab.fr ff (hnot _ _ _ h.tab.blk (by decide) (by decide)) ?_
    rintro (hk | e)
    · obtain ⟨c2, hc2⟩ := h3.heap hk
      exact hml.ne_blk hc2 rfl
    · exact hml.ne_blk h1 e
  · rcases hk with hk | rfl
    · exact ⟨(h3.block hk).1, (hz k hk).imp id fun hk1 => ⟨hk1, h3.heap hk⟩⟩
    · exact ⟨h.ls, .inl h.zs⟩

/-- A new zone: what is new. -/
theorem Srv.zone (h : Srv B z0 z1 w s lk bm O N bx T X P ph ord) (hf : New w w') : Srv B w.heap.size w'.heap.size w' s lk bm O N bx T X P ph ord := by
  obtain ⟨tv, ov, h1, h2, h3, hz⟩ := h.blk
  have h' := h.new hf
  have z1 := h.zw
  exact { h' with
    blk := ⟨tv, ov, hf.blk h1, h2.new hf, h3.new hf, fun g hg => .inl (h3.block hg).2⟩
    zs := h1.lt
    zl := h.tab.lt
    zb := h.tab.ltm
    zT := fun i hi => by
      obtain ⟨ct, ht⟩ := (h.ss i hi).tsk
      obtain ⟨cp, hp⟩ := (h.ss i hi).spl
      exact ⟨ht.lt, hp.lt⟩
    zw := Nat.le_refl _
    z01 := hf.size }
theorem Srv.congr (h : Srv B z0 z1 w s lk bm O N bx T X P ph ord) {ph' : Nat → Nat} (e : ∀ i : Nat, i < 2 → ph i = ph' i) : Srv B z0 z1 w s lk bm O N bx T X P ph' ord :=
  { h with ss := fun i hi => by rw [← e i hi]; exact h.ss i hi }
end
end Go.Proofs.YtliimglbbiebiaaGreatDoor
end

section
/- sched: pick, Pick. -/
namespace Go.Proofs.YtliimglbbiebiaaGreatDoor
open Go.RowKit

theorem pt_info : (Tryz.prog.info? 74).map (fun i => (i.zero, i.size, i.bytes)) = some (some (.pointer none), 1, 8) := by kernel_rfl

section
variable {B z0 z1 : Nat} {w w' : World} {bx : Value} {s lk bm : Nat} {O : List Int} {N : Int} {T X P ph : Nat → Nat} {ord : List Int}

def movB (n : Nat) : Bool := decide (n < 2)
def ordP (ord : List Int) (n : Nat) (i : Int) : List Int := ord ++ if n = 1 then [i] else []

set_option maxRecDepth 100000 in
set_option maxHeartbeats 1600000 in
theorem pick_any (h : Srv B z0 z1 w s lk bm O N bx T X P ph ord) (i : Nat) (hi : i < 2) (hlen : ord.length ≤ 1000) (hT : ∀ w', Fr (fun k => B ≤ k) w w' → Tabs w') :
    Calls Tryz.prog 31 #[.pointer (some ⟨s, 0, none⟩), .int .i64 i] w fun e w' => e = .returned (.bool (movB (ph i))) ∧ Srv B z0 z1 w' s lk bm O N bx T X P (updP ph i) (ordP ord (ph i) i) ∧ Fr (Zn B z0 z1 w) w w' := by
  obtain ⟨tv, ov, hb, ht, ho, _⟩ := h.blk
  obtain ⟨A, c, rfl, hc⟩ := ht.form
  obtain ⟨g, rfl⟩ := ht.some_ (by simp)
  have ct : w.cell? ⟨g, i, none⟩ = some (.pointer (some ⟨T i, 0, none⟩)) := by
    obtain rfl | rfl : i = 0 ∨ i = 1 := by omega
    · exact ht.cell_at (k := 0) (x := T 0) rfl (j := 0) rfl
    · exact ht.cell_at (k := 1) (x := T 1) rfl (j := 0) rfl
  have c2 : w.cell? ⟨s, 2, none⟩ = some (.slice (some ⟨g, 0, none⟩) 2 c) := hb.cell 2
  have hstep := sess_step (y := yOf i) (by unfold yOf; split; exact .inl rfl; exact .inr rfl) (h.ss i hi) h.tab (h.oo i hi) (by omega) (by omega) hT
  obtain ⟨r, hr⟩ : ∃ r, resP (ph i) = r := ⟨_, rfl⟩
  rw [hr] at hstep
  have hr3 : (r = 2 ∧ ph i = 0) ∨ (r = 3 ∧ ph i = 1) ∨ (r = 0 ∧ 2 ≤ ph i) := by
    unfold resP at hr
    split at hr
    · exact .inl ⟨hr.symm, by assumption⟩
    · split at hr
      · exact .inr (.inl ⟨hr.symm, by assumption⟩)
      · exact .inr (.inr ⟨hr.symm, by omega⟩)
  have HS := Lib.hid hstep
  have HR := Lib.hid hr3
  have HI := Lib.hid hi
  have H := Lib.hid h
  have hmf : ∀ (fn : Fn) (first cap : Array Value) (w : World), (Instr.makeFunc fn first cap).run Tryz.prog w = .ok (.func fn first cap) w := fun _ _ _ _ => rfl
  have hd1 : decide ((i : Int) < 0) = false := decide_eq_false (by omega)
  have hd2 : decide ((2 : Int) ≤ (i : Int)) = false := decide_eq_false (by omega)
  have hd3 : (i : Int).toNat = i := by omega
  obtain ⟨i0, hi0, hz0, hz1, hz2⟩ := info_parts int_info
  clear hstep hr hr3 h hb ht ho hT
  go_enter Tryz.func31, Tryz.ntmps31
  go_wp2_with fail
  refine HS.out.mono ?_
  rintro e w1 ⟨rfl, s1, L1, f1⟩
  obtain ⟨S1, F1⟩ := H.out.step i HI.out f1 s1 L1
  have z01 := H.out.z01
  have F1' : Fr (Zn B z0 z1 w) w w1 := F1.mono fun k _ hk => ⟨hk.1, .inl hk.2⟩
  have hr3 := HR.out
  clear ct c2 s1 L1 f1
  rcases hr3 with ⟨rfl, e0⟩ | ⟨rfl, e1⟩ | ⟨rfl, e2⟩
  · have E0 := Lib.hid e0
    clear e0
    go_wp2
    go_ret
    refine ⟨by unfold movB; rw [E0.out]; rfl, ?_, F1'⟩
    unfold ordP
    rw [E0.out, if_neg (by omega), List.append_nil]
    exact S1
  · have E1 := Lib.hid e1
    clear e1
    obtain ⟨tv, ov, hb, ht, ho, hz⟩ := S1.blk
    obtain ⟨A3, C3, rfl, _⟩ := ho.form
    have c3 : w1.cell? ⟨s, 3, none⟩ = some (.slice A3 ord.length C3) := hb.cell 3
    have hb1 := hb.alloc (.cells #[.int .i64 i] 3)
    have ho1 := ho.alloc (.cells #[.int .i64 i] 3)
    have hrd : Rd (intE .i64) (w1.alloc (.cells #[.int .i64 i] 3)) (.slice (some ⟨w1.heap.size, 0, none⟩) 1 1) [(i : Int)] := rd_one (E := intE .i64) (x := (i : Int)) (t := 3) (Blk.new _ _ _)
    have hlB : B ≤ (w1.alloc (.cells #[.int .i64 i] 3)).heap.size := by have := S1.lB; rw [World.size_alloc]; omega
    go_wp2_with (at_builtin; refine wpList_append (E := intE .i64) rfl _ _ _ rfl Tryz.underlying31 hi0 hz0 hz1 hz2 rfl ho1 rfl hrd rfl (by unfold maxLen; simp; omega) (by simp; omega) hlB ?_; intro v2 w2 hv2 hf2 hl2; have hb2 := hf2.blk hb1 (fun hk => ho1.blk_ne hb1 (by decide) hk); have c4 : w2.cell? ⟨s, 3, none⟩ = some (.slice A3 ord.length C3) := hb2.cell 3; have f4 : w2.frozen? ⟨s, 3, none⟩ = false := hb2.frozen 3; obtain ⟨A4, C4, rfl, _⟩ := hv2.form; rw [show (ord ++ [(i : Int)]).length = ord.length + 1 from by simp] at hv2 hl2)
    go_ret
    obtain ⟨P1, P2⟩ := S1.push hb ht ho hz hv2 (Fr.trans (((New.refl w1).alloc _).mono fun _ _ h => h.elim) hf2) (by
      rcases hl2 with e | e
      · exact .inl e
      · exact .inr (.inr ⟨_, e, by rw [World.size_alloc]; omega⟩))
    refine ⟨by unfold movB; rw [E1.out]; rfl, ?_, Fr.trans' F1' P2 fun j hj hk => ⟨hk.1, ?_⟩⟩
    · unfold ordP
      rw [E1.out, if_pos rfl]
      exact P1
    · rcases hk.2 with hk | ⟨hk, cs, hcs⟩
      · exact .inl hk
      · refine .inr ⟨hk, cs, ?_⟩
        unfold Blk at hcs ⊢
        rw [← F1.block j hj (fun h => by omega)]
        exact hcs
  · have E2 := Lib.hid e2
    clear e2
    go_wp2
    go_ret
    refine ⟨by unfold movB; rw [decide_eq_false (by have := E2.out; omega)]; rfl, ?_, F1'⟩
    unfold ordP
    rw [if_neg (by have := E2.out; omega), List.append_nil]
    exact S1
end
end Go.Proofs.YtliimglbbiebiaaGreatDoor
end

section
/- sched: turns, an iterator that never ends by itself. -/
namespace Go.Proofs.YtliimglbbiebiaaGreatDoor
open Go.RowKit

theorem fturns_any (s : Nat) (w : World) : Calls Tryz.prog 33 #[.pointer (some ⟨s, 0, none⟩)] w fun e w' => e = .returned (.func (.func 55) #[] #[.pointer (some ⟨w.heap.size, 0, none⟩)]) ∧ w' = w.alloc (.cells #[.pointer (some ⟨s, 0, none⟩)] 26) := by
  have hmf : ∀ (fn : Fn) (first cap : Array Value) (w : World), (Instr.makeFunc fn first cap).run Tryz.prog w = .ok (.func fn first cap) w := fun _ _ _ _ => rfl
  go_enter Tryz.func33, Tryz.ntmps33
  go_wp2
  go_ret
  exact ⟨rfl, rfl⟩

/-- A loop whose rounds are counted down. -/
theorem wpIn_loop_fuel {F : Fence} {n : Nat} {P : Program} {Q : Exit → Act → World → Prop} {a : Act} {w : World} {c : Code} (R : Nat → Act → World → Prop) (f : Nat) (h : R f a w) (h0 : ∀ a w, ¬ R 0 a w)
    (step : ∀ f a w, R (f + 1) a w → c.wpIn F n P (Exit.then (R f) Q) a w) : (Code.loop c).wpIn F n P Q a w := by
  refine wpIn_loop_rounds f ?_
  induction f generalizing a w with
  | zero => exact (h0 _ _ h).elim
  | succ f ih =>
    rw [roundsIn_succ]
    refine wpIn_mono (step f a w h) fun e a' w' hq => ?_
    cases e with
    | normal => exact ih hq
    | ret => exact hq
    | exit i => exact hq
    | goto t => exact hq
    | panic c => exact hq
    | outgrown => exact hq

set_option maxRecDepth 100000 in
set_option maxHeartbeats 1600000 in
theorem turns1_seq (q s m K : Nat) (hm : 0 < m) (hm1 : m ≤ 1000) {I : List Nat → World → Prop} {Ix : Code → List Nat → World → Prop} {KK : World → Prop} {Kx : Code → World → Prop} (l : Nat) (W1 : World) (hK1 : KK W1) (i1 : I [] W1)
    (hread : ∀ pre W, I pre W → W.cell? ⟨q, 0, none⟩ = some (.pointer (some ⟨s, 0, none⟩)) ∧ ∃ A c, W.cell? ⟨s, 2, none⟩ = some (.slice A m c))
    (hfuel : ∀ pre W, I pre W → pre.length ≤ K)
    (hround : ∀ pre x W, I pre W → x = pre.length % m → KK W → YieldAt Fence.wide 4 Tryz.prog l #[.int .i64 x] W fun e W' => (e = .returned (.bool true) ∧ I (pre ++ [x]) W' ∧ KK W') ∨ (e = .returned (.bool false) ∧ ∃ c, Ix c (pre ++ [x]) W' ∧ Kx c W')) :
    CallsIn Fence.wide 5 Tryz.prog 55 #[.func (.yield l) #[] #[], .pointer (some ⟨q, 0, none⟩)] W1 fun e W' => (∃ v, e = .returned v) ∧ ∃ pre c, Ix c pre W' ∧ Kx c W' := by
  refine callsIn_of_wp Tryz.func55 rfl trivial ?_ rfl
  simp only [Tryz.ntmps55, List.size_toArray, List.length_cons, List.length_nil, Nat.reduceAdd, Nat.reduceSub, Array.replicate_succ, Array.replicate_zero, List.push_toArray, List.append_toArray, List.nil_append, List.cons_append]
  gi_wp2_with fail
  refine wpIn_loop_fuel (fun f a W => ∃ (pre : List Nat) (b : Nat) (u3 u4 u5 u6 u7 u8 u9 u10 u11 u12 u13 u14 u15 u16 : Value), I pre W ∧ KK W ∧ pre.length = b * m ∧ K < pre.length + f ∧
    a = { tmps := #[.func (.yield l) #[] #[], .pointer (some ⟨q, 0, none⟩), undef, u3, u4, u5, u6, u7, u8, u9, u10, u11, u12, u13, u14, u15, u16], defers := [] }) (K + 1)
    ⟨[], 0, _, _, _, _, _, _, _, _, _, _, _, _, _, _, i1, hK1, by simp, by simp, rfl⟩ (fun a W => ?_) fun f a W => ?_
  · rintro ⟨pre, b, u3, u4, u5, u6, u7, u8, u9, u10, u11, u12, u13, u14, u15, u16, hI, hK, hl, hf, rfl⟩
    have := hfuel pre W hI
    omega
  rintro ⟨pre, b, u3, u4, u5, u6, u7, u8, u9, u10, u11, u12, u13, u14, u15, u16, hI, hK, hl, hf, rfl⟩
  obtain ⟨r1, A, c, r2⟩ := hread pre W hI
  gi_wp2_with fail
  refine wpIn_loop_fuel (fun g a W => ∃ (pre : List Nat) (i : Nat) (u3 u10 u11 u12 u13 u14 u15 u16 : Value), I pre W ∧ KK W ∧ pre.length = b * m + i ∧ K + i < pre.length + (f + 1) ∧ i ≤ m ∧ i + g = m + 1 ∧
    a = { tmps := #[.func (.yield l) #[] #[], .pointer (some ⟨q, 0, none⟩), undef, u3, .pointer (some ⟨s, 0, none⟩), .pointer (some ⟨s, 0, none⟩), .pointer (some ⟨s, 2, none⟩), .slice A m c, .int .i64 m, .int .i64 i, u10, u11, u12, u13, u14, u15, u16], defers := [] }) (m + 1)
    ⟨pre, 0, _, _, _, _, _, _, _, _, hI, hK, hl, by omega, by omega, by omega, rfl⟩ (fun a W => ?_) fun g a W => ?_
  · rintro ⟨pre, i, u3, u10, u11, u12, u13, u14, u15, u16, hI, hK, hl, hf, hi, hg, rfl⟩
    omega
  clear hI hK hl hf r1 r2
  rintro ⟨pre, i, u3, u10, u11, u12, u13, u14, u15, u16, hI, hK, hl, hf, hi, hg, rfl⟩
  by_cases hd : i < m
  · have hx : i = pre.length % m := by rw [hl, Nat.mul_comm, Nat.mul_add_mod, Nat.mod_eq_of_lt hd]
    obtain ⟨fn, tmps, assign, body, hy, hR⟩ := hround pre i W hI hx hK
    have hlt : ((i : Int) < (m : Int)) := by omega
    have hd1 : decide ((i : Int) < (m : Int)) = true := decide_eq_true hlt
    have HR := Lib.hid hR
    have HL := Lib.hid hl
    clear hR hx hl hround
    gi_wp2_with fail
    refine HR.out.mono ?_
    rintro e W5 (⟨rfl, hI5, k5⟩ | ⟨rfl, c0, hf0, k5⟩)
    · gi_wp2_with fail
      refine ⟨pre ++ [i], i + 1, _, _, _, _, _, _, _, _, hI5, k5, by have := HL.out; simp; omega, by simp; omega, by omega, by omega, rfl⟩
    · gi_wp2
      refine bodyPost_ret (results_none rfl _ _ _) rfl ?_
      exact ⟨⟨_, rfl⟩, _, c0, hf0, k5⟩
  · have hd1 : decide ((i : Int) < (m : Int)) = false := decide_eq_false (by omega)
    have HL := Lib.hid hl
    clear hl hround
    gi_wp2_with fail
    obtain rfl : i = m := by omega
    exact ⟨pre, b + 1, _, _, _, _, _, _, _, _, _, _, _, _, _, _, hI, hK, by rw [HL.out, Nat.succ_mul], by omega, rfl⟩
end Go.Proofs.YtliimglbbiebiaaGreatDoor
end

section
/- A region that draws its order and only reads, inside a round of a range over a function: walked once, in the order of the text. A plain law, of no program; its conditions are its hypotheses. -/
namespace Go.Proofs.YtliimglbbiebiaaGreatDoor
open Go.RowKit

section
variable {F : Fence} {n : Nat} {P : Program} {ops : Array Oper} {Q : Exit → Act → World → Prop} {l : Nat}

theorem operIn_round {o : Oper} (hd : ∀ c, o.op ≠ .defer c) {a : Act} {w : World} {next : Act → World → Prop} (h : o.wpIn F n P a w next Q) : o.wpIn (F.inRound l) n P a w next Q := by
  unfold Oper.wpIn at h ⊢
  rw [Oper.semAt_eq _ _ _ hd] at h ⊢
  exact h

theorem opIn_round (hd : ∀ o ∈ ops, ∀ c, o.op ≠ .defer c) {i : Nat} {K K' : Act → World → Prop} (hK : ∀ a w, K a w → K' a w) {a : Act} {w : World} (h : wpOpIn F n P ops Q i K a w) : wpOpIn (F.inRound l) n P ops Q i K' a w := by
  unfold wpOpIn at h ⊢
  cases ho : ops[i]? with
  | none => rw [ho] at h; exact hK _ _ h
  | some o =>
    rw [ho] at h
    simp only at h ⊢
    split
    · rename_i hw
      rw [if_pos hw] at h
      exact operIn_round (hd o (Array.mem_of_getElem? ho)) (Oper.wpIn_mono hK h)
    · rename_i hw
      rw [if_neg hw] at h
      exact ⟨h.1, hK _ _ h.2⟩

theorem anyIn_round {md : Region.Mode} (hd : ∀ o ∈ ops, ∀ c, o.op ≠ .defer c) : ∀ (fuel : Nat) (listed : Array Bool) (a : Act) (w : World), wpAnyIn F n P md ops Q fuel listed a w → wpAnyIn (F.inRound l) n P md ops Q fuel listed a w
  | 0, _, _, _, h => h
  | fuel + 1, _, _, _, h => ⟨h.1, fun i hi => opIn_round hd (fun a w h => anyIn_round hd fuel _ a w h) (h.2 i hi)⟩

def noDefer (os : List Oper) : Bool := os.all fun o => match o.op with | .defer _ => false | _ => true
theorem noDefer_ok {os : List Oper} (h : noDefer os = true) : ∀ o ∈ os.toArray, ∀ c, o.op ≠ .defer c := fun o ho c e => by
  have := List.all_eq_true.1 h o (by simpa using ho)
  rw [e] at this
  cases this

theorem wpIn_region_quiet_lit_round {id : Nat} {a : Act} {w : World} {os : List Oper} (hro : F.round = none) (hm : P.follows .mixedOrders = true) (hB : Region.lexB .any os.toArray = true) (hd0 : noDefer os = true)
    (h : wpQuietIn F n P os.toArray (fun w' => ∃ n, w' = w.drewN n) (fun a' => ∀ w', (∃ n, w' = w.drewN n) → Q .normal a' w') os a) : (Code.region id os.toArray true).wpIn (F.inRound l) n P Q a w := by
  have hd := noDefer_ok hd0
  simp only [Region.lexB, Bool.and_eq_true] at hB
  refine wpIn_region_any hm (anyIn_round hd _ _ _ _ (wpAnyIn_of_quiet (C := fun w' => ∃ n, w' = w.drewN n) (Q := fun a' => ∀ w', (∃ n, w' = w.drewN n) → Q .normal a' w') hro (fun _ w' hw' h => h w' hw') _ _ _ _ ⟨1, rfl⟩ ?_))
  have := wpAnyQIn_lex (F := F) (n := n) (C := fun w' => ∃ n, w' = w.drewN n) (md := .any) hB.1 os.toArray.toList 0 (Array.replicate os.toArray.size false) a (by simp) (by simpa using hB.2) (by simpa using h)
  simpa using this
end
end Go.Proofs.YtliimglbbiebiaaGreatDoor
end

