/- A part of the proof: UidV, Resp1, Char1, Char2. -/
import Derived.Test.YtliimglbbiebiaaGreatDoorGTopFullAN
import Derived.Conc.MuLone
import Derived.Defers
import Derived.Test.YtliimglbbiebiaaGreatDoorGTopFullAC
import Derived.Test.YtliimglbbiebiaaGreatDoorGTopFullAB
import Derived.Laws.EntriesVeiled
import Derived.Test.YtliimglbbiebiaaGreatDoorGTopFullAA
import Derived.WalkKit
import Derived.WalkSpells
import Derived.WalkLawsBesides
import Derived.LoopN
import Derived.Lib.Hide
import Derived.Deep.QuietTactic
import Derived.Deep.RegionHeld3
import Derived.BigQuiet

section
/- The validity of a counter, determined once: package sync's Once walked over the library's own contracts of the mutex. -/
namespace Go.Proofs.YtliimglbbiebiaaGreatDoor.UV
open Go.RowKit Go.MuLone

set_option maxHeartbeats 400000 in
/-- The numbers under which the dump holds the mutex's functions and types. -/
abbrev mu : Go.Conc.Locks.MuLink := { lock := 243, unlock := 244, ilock := 300, iunlock := 301, lockSlow := 338, unlockSlow := 341, disable := 334, enable := 336, acquire := 337, relMerge := 339, cas32 := 335, add32 := 340, tMutex := 141, tIMutex := 139, tPMutex := 408, tPIMutex := 443, tPI32 := 445, tUP := 447, tNoCopy := 137, tU32 := 28 }
theorem muLib : Go.Conc.Locks.MuLib Tryz.prog mu :=
  ⟨Tryz.func243, Tryz.func244, Tryz.func300, Tryz.func301, Tryz.func334, Tryz.func336, Tryz.func337, Tryz.func339, Tryz.func335, Tryz.func340, Tryz.underlying139, Tryz.runUnderlying139, Tryz.sizeOf139, Tryz.isAgg139, Tryz.zeroValue139, Tryz.underlying141, Tryz.runUnderlying141, Tryz.sizeOf141, Tryz.isAgg141, Tryz.zeroValue141, Tryz.underlying408, Tryz.runUnderlying408, Tryz.sizeOf408, Tryz.isAgg408, Tryz.zeroValue408, Tryz.underlying443, Tryz.runUnderlying443, Tryz.sizeOf443, Tryz.isAgg443, Tryz.zeroValue443, Tryz.underlying445, Tryz.runUnderlying445, Tryz.sizeOf445, Tryz.isAgg445, Tryz.zeroValue445, Tryz.underlying447, Tryz.runUnderlying447, Tryz.sizeOf447, Tryz.isAgg447, Tryz.zeroValue447, Tryz.underlying137, Tryz.runUnderlying137, Tryz.sizeOf137, Tryz.isAgg137, Tryz.zeroValue137, Tryz.underlying21, Tryz.runUnderlying21, Tryz.sizeOf21, Tryz.isAgg21, Tryz.zeroValue21, (by kernel_rfl)⟩

theorem hnot (x : Bool) (w : World) : (Op.unary .not (.bool x)).run Tryz.prog w = .ok (.bool (!x)) w := rfl

set_option maxRecDepth 100000 in
set_option maxHeartbeats 400000 in
theorem bool_load (a : Addr) (x : Int) (w : World) (hc : w.cell? a = some (.int .u32 x)) :
    Calls Tryz.prog 234 #[.pointer (some a)] w fun e w' => e = .returned (.bool (x != 0)) ∧ w = w' := by
  have hs := run_call_load (P := Tryz.prog) Tryz.func104 (by kernel_rfl) (by kernel_rfl) (by kernel_rfl) .u32 (by kernel_rfl) hc
  go_enter Tryz.func234, Tryz.ntmps234
  go_wp2
  go_ret
  exact ⟨rfl, rfl⟩

set_option maxRecDepth 100000 in
set_option maxHeartbeats 400000 in
theorem b32_true (w : World) : Calls Tryz.prog 333 #[.bool true] w fun e w' => e = .returned (.int .u32 1) ∧ w = w' := by
  go_enter Tryz.func333, Tryz.ntmps333
  go_wp2
  go_ret
  exact ⟨rfl, rfl⟩

set_option maxRecDepth 100000 in
set_option maxHeartbeats 800000 in
/-- (*atomic.Bool).Store(true), entered as a deferred call. -/
theorem bool_store_deferred (a : Addr) (x : Value) (u : FrameMode) (w : World) (hc : w.cell? a = some x) (hz : w.frozen? a = false) :
    CallsD Tryz.prog 294 #[.pointer (some a), .bool true] u w fun e u' w' => u' = u ∧ (e = .returned (.tuple #[]) ∧ w' = w.drew.setCell a (.int .u32 1)) := by
  have hc' : w.drew.cell? a = some x := by go_simp
  have hz' : w.drew.frozen? a = false := by go_simp
  have hst := run_call_store (P := Tryz.prog) Tryz.func80 (by kernel_rfl) (by kernel_rfl) (by kernel_rfl) (by kernel_rfl) (k := .u32) (y := 1) hc' hz'
  go_enter_d Tryz.func294, Tryz.ntmps294
  go_wp2
  go_region_calls
  all_goals (go_end0; exact ⟨rfl, rfl⟩)

set_option maxRecDepth 100000 in
set_option maxHeartbeats 800000 in
/-- The function that Validity hands to Once.Do. -/
theorem vfn_any (pl b : Nat) (w : World) (f : Int) (v : Value) (hp : w.cell? ⟨pl, 0, none⟩ = some (.pointer (some ⟨b, 0, none⟩)))
    (c2 : w.cell? ⟨b, 2, none⟩ = some (.int .u32 f)) (c3 : w.cell? ⟨b, 3, none⟩ = some v) (f3 : w.frozen? ⟨b, 3, none⟩ = false) :
    Calls Tryz.prog 186 #[.pointer (some ⟨pl, 0, none⟩)] w fun e w' => e = .returned (.tuple #[]) ∧ w.drew.setCell ⟨b, 3, none⟩ (.int .u32 f) = w' := by
  go_enter Tryz.func186, Tryz.ntmps186
  go_wp2_with fail
  refine wp_tail 7 (by kernel_rfl) (by kernel_rfl) ?_
  simp only [List.take_succ_cons, List.take_zero, List.drop_succ_cons, List.drop_zero]
  repeat still_step
  refine wpStill_nil ?_
  go_wp2
  go_end0
  exact ⟨rfl, rfl⟩

set_option maxRecDepth 100000 in
set_option maxHeartbeats 1600000 in
theorem slow_first (pl b : Nat) (w : World) (n t f v : Int) (hp : w.cell? ⟨pl, 0, none⟩ = some (.pointer (some ⟨b, 0, none⟩))) (h : Ctr w b n t f v 0) :
    Calls Tryz.prog 235 #[.pointer (some ⟨b, 4, none⟩), .func (.func 186) #[] #[.pointer (some ⟨pl, 0, none⟩)]] w fun e w' => e = .returned (.tuple #[]) ∧ Ctr w' b n t f f 1 ∧ One b w w' := by
  have f5 : w.frozen? ⟨b, 5, none⟩ = false := h.frozen 5
  have c5 := h.c5
  have h1 : Blk (w.setCell ⟨b, 5, none⟩ (.int .i32 1)) b 155 #[.int .u32 n, .int .u64 t, .int .u32 f, .int .u32 v, .int .u32 0, .int .i32 1, .int .u32 0] := h.set_ 5 _
  have d4 : (w.setCell ⟨b, 5, none⟩ (.int .i32 1)).cell? ⟨b, 4, none⟩ = some (.int .u32 0) := h1.cell 4
  have hnot := hnot
  go_enter_defers Tryz.func235, Tryz.ntmps235
  go_wp2_with (first
    | (go_at_call 243; refine (lock_free muLib ⟨b, 5, none⟩ _ c5 f5).mono ?_; rintro e w' ⟨rfl, rfl⟩)
    | (go_at_call 234; refine (bool_load _ _ _ d4).mono ?_; rintro e w' ⟨rfl, rfl⟩))
  refine (vfn_any pl b _ f (.int .u32 v) ((World.cell?_setCell_other _ _ _ _ (by simp)).trans hp) (h1.cell 2) (h1.cell 3) (h1.frozen 3)).mono ?_
  rintro e w' ⟨rfl, rfl⟩
  have h2 : Blk ((w.setCell ⟨b, 5, none⟩ (.int .i32 1)).drew.setCell ⟨b, 3, none⟩ (.int .u32 f)) b 155 #[.int .u32 n, .int .u64 t, .int .u32 f, .int .u32 f, .int .u32 0, .int .i32 1, .int .u32 0] := h1.drew.set_ 3 _
  have h3 : Blk (((w.setCell ⟨b, 5, none⟩ (.int .i32 1)).drew.setCell ⟨b, 3, none⟩ (.int .u32 f)).drew.setCell ⟨b, 4, none⟩ (.int .u32 1)) b 155 #[.int .u32 n, .int .u64 t, .int .u32 f, .int .u32 f, .int .u32 1, .int .i32 1, .int .u32 0] := h2.drew.set_ 4 _
  have h4 : Blk ((((w.setCell ⟨b, 5, none⟩ (.int .i32 1)).drew.setCell ⟨b, 3, none⟩ (.int .u32 f)).drew.setCell ⟨b, 4, none⟩ (.int .u32 1)).setCell ⟨b, 5, none⟩ (.int .i32 0)) b 155 #[.int .u32 n, .int .u64 t, .int .u32 f, .int .u32 f, .int .u32 1, .int .i32 0, .int .u32 0] := h3.set_ 5 _
  go_wp2
  refine leaves_cons (f := 294) (args := #[.pointer (some ⟨b, 4, none⟩), .bool true]) (by simp) (by simp [go_sem]) ?_
  refine (bool_store_deferred ⟨b, 4, none⟩ (.int .u32 0) .returning _ (h2.cell 4) (h2.frozen 4)).mono ?_
  rintro e u' w'' ⟨rfl, rfl, rfl⟩
  refine leaves_cons (f := 244) (args := #[.pointer (some ⟨b, 5, none⟩)]) (by simp [settle]) (by simp [go_sem]) ?_
  refine (unlock_deferred muLib ⟨b, 5, none⟩ _ _ (h3.cell 5) (h3.frozen 5)).mono ?_
  rintro e u' w'' ⟨rfl, rfl, rfl⟩
  exact ⟨_, results_none rfl _ _ _, rfl, h4, One.set (One.set (Fr.drew (One.set (Fr.drew (One.set (One.refl _ _) _ _)) _ _)) _ _) _ _⟩

set_option maxRecDepth 100000 in
set_option maxHeartbeats 800000 in
theorem do_first (pl b : Nat) (w : World) (n t f v : Int) (hp : w.cell? ⟨pl, 0, none⟩ = some (.pointer (some ⟨b, 0, none⟩))) (h : Ctr w b n t f v 0) :
    Calls Tryz.prog 185 #[.pointer (some ⟨b, 4, none⟩), .func (.func 186) #[] #[.pointer (some ⟨pl, 0, none⟩)]] w fun e w' => e = .returned (.tuple #[]) ∧ Ctr w' b n t f f 1 ∧ One b w w' := by
  have c4 := h.c4
  have hnot := hnot
  go_enter Tryz.func185, Tryz.ntmps185
  go_wp2_with (first
    | (go_at_call 234; refine (bool_load _ _ _ c4).mono ?_; rintro e w' ⟨rfl, rfl⟩)
    | (go_at_call 235; refine (slow_first pl b _ n t f v hp h).mono ?_; rintro e w' ⟨rfl, hc, ho⟩))
  go_end0
  exact ⟨rfl, hc, ho⟩

set_option maxRecDepth 100000 in
set_option maxHeartbeats 800000 in
theorem do_done (b : Nat) (w : World) (n t f v : Int) (fv : Value) (h : Ctr w b n t f v 1) :
    Calls Tryz.prog 185 #[.pointer (some ⟨b, 4, none⟩), fv] w fun e w' => e = .returned (.tuple #[]) ∧ w = w' := by
  have c4 := h.c4
  have hnot := hnot
  go_enter Tryz.func185, Tryz.ntmps185
  go_wp2_with (go_at_call 234; refine (bool_load _ _ _ c4).mono ?_; rintro e w' ⟨rfl, rfl⟩)
  go_end0
  exact ⟨rfl, rfl⟩

set_option maxRecDepth 100000 in
set_option maxHeartbeats 800000 in
theorem validity_first (b : Nat) (w : World) (n t f v : Int) (h : Ctr w b n t f v 0) :
    Calls Tryz.prog 131 #[.pointer (some ⟨b, 0, none⟩)] w fun e w' => e = .returned (.int .u32 f) ∧ Ctr w' b n t f f 1 ∧ One b w w' := by
  have hmf : ∀ (fn : Fn) (first cap : Array Value) (w : World), (Instr.makeFunc fn first cap).run Tryz.prog w = .ok (.func fn first cap) w := fun _ _ _ _ => rfl
  have hb := Blk.lt h
  go_enter Tryz.func131, Tryz.ntmps131
  go_wp2_with (go_at_call 185; refine (do_first w.heap.size b _ n t f v (by simp) (Blk.alloc h _)).mono ?_; rintro e w1 ⟨rfl, hc, ho⟩; have hp1 : w1.cell? ⟨w.heap.size, 0, none⟩ = some (.pointer (some ⟨b, 0, none⟩)) := (One.blk ho (Blk.new w _ _) (by omega)).cell 0; have c3 := hc.c3)
  go_ret
  exact ⟨rfl, hc, (Fr.trans ((One.refl _ _).alloc _) ho)⟩

set_option maxRecDepth 100000 in
set_option maxHeartbeats 800000 in
theorem validity_done (b : Nat) (w : World) (n t f v : Int) (h : Ctr w b n t f v 1) :
    Calls Tryz.prog 131 #[.pointer (some ⟨b, 0, none⟩)] w fun e w' => e = .returned (.int .u32 v) ∧ Ctr w' b n t f v 1 ∧ New w w' := by
  have hmf : ∀ (fn : Fn) (first cap : Array Value) (w : World), (Instr.makeFunc fn first cap).run Tryz.prog w = .ok (.func fn first cap) w := fun _ _ _ _ => rfl
  have c3 := h.c3
  have hb := Blk.lt h
  go_enter Tryz.func131, Tryz.ntmps131
  go_wp2_with (go_at_call 185; refine (do_done b _ n t f v _ (Blk.alloc h _)).mono ?_; rintro e w1 ⟨rfl, rfl⟩)
  go_ret
  exact ⟨rfl, Blk.alloc h _, (New.refl _).alloc _⟩

/-- Validity, whatever the counter's state. -/
theorem validity_any {w : World} {b : Nat} {n t f v d : Int} (h : Ctr w b n t f v d) (hd : d = 0 ∨ d = 1 ∧ v = f) :
    Calls Tryz.prog 131 #[.pointer (some ⟨b, 0, none⟩)] w fun e w' => e = .returned (.int .u32 f) ∧ Ctr w' b n t f f 1 ∧ One b w w' := by
  rcases hd with rfl | ⟨rfl, rfl⟩
  · exact validity_first b w n t f v h
  · exact (validity_done b w n t v v h).mono fun e w' ⟨he, hc, hn⟩ => ⟨he, hc, hn.mono fun _ _ h => h.elim⟩

end Go.Proofs.YtliimglbbiebiaaGreatDoor.UV
end

section
/- resp.forms: the forms of all kinds. -/
namespace Go.Proofs.YtliimglbbiebiaaGreatDoor
open Go.RowKit Go.Maps

theorem Blk.not_map {w : World} {g : Nat} {t : TypeId} {cs : Array Value} {P : Program} {K : TypeId} {β : Type} [DecidableEq β] {KE : KeyEnc P K β} {b : Nat} {m : List (β × Value)} (h : Blk w g t cs) (hm : HasMap KE w b m) : g ≠ b := by
  rintro rfl
  obtain ⟨D, ⟨es, clock, h3, _⟩, _⟩ := hm.own
  unfold Blk at h
  rw [h] at h3
  cases h3
theorem results_cell1 {P : Program} {fn : Func} {p : Tmp} {t : TypeId} (h : fn.results = #[.cell p t]) (tmps : Array Value) (w : World) {a : Addr} {v : Value}
    (hp : tmps[p]? = some (.pointer (some a))) (hv : (loadVar t a).run P w = .ok v w) : (results fn tmps).run P w = .ok v w := by
  simp [results, h, hp, asAddr, hv]
theorem loadForm {w : World} {g : Nat} {a b : Value} (h : Blk w g 428 #[a, b]) : (loadVar 428 ⟨g, 0, none⟩).run Tryz.prog w = .ok (.agg #[a, b]) w :=
  run_loadVar_row w g _ _ _ _ _ h Tryz.underlying428 rfl (by kernel_rfl)
abbrev numF (g : Nat) : Value := .agg #[.func (.func 404) #[] #[.pointer (some ⟨g, 0, none⟩)], .func (.func 405) #[] #[]]
abbrev txtF (g : Nat) : Value := .agg #[.func (.func 408) #[] #[.pointer (some ⟨g, 0, none⟩)], .func (.func 409) #[] #[]]
abbrev fetF : Value := .agg #[.func (.func 406) #[] #[], .func (.func 407) #[] #[]]
abbrev tagF : Value := .agg #[.func (.func 411) #[] #[], .func (.func 412) #[] #[]]
abbrev flgF : Value := .agg #[.func (.func 359) #[] #[], .func (.func 360) #[] #[]]

set_option maxHeartbeats 800000 in
theorem fnumber_any (s : ByteArray) (w : World) : Calls Tryz.prog 357 #[.string s] w fun e w' => e = .returned (numF w.heap.size) ∧ Blk w' w.heap.size 9 #[.string s] ∧ New w w' := by
  have hmf : ∀ (fn : Fn) (first cap : Array Value) (w : World), (Instr.makeFunc fn first cap).run Tryz.prog w = .ok (.func fn first cap) w := fun _ _ _ _ => rfl
  go_enter Tryz.func357, Tryz.ntmps357
  go_wp2
  refine bodyPost_ret (results_cell1 rfl _ _ rfl (loadForm (Blk.new1 _ _ _ _))) rfl ⟨rfl, (Blk.new _ _ _).alloc _, ((New.refl w).alloc _).alloc _⟩

set_option maxHeartbeats 800000 in
theorem ftext_any (s : ByteArray) (w : World) : Calls Tryz.prog 361 #[.string s] w fun e w' => e = .returned (txtF w.heap.size) ∧ Blk w' w.heap.size 9 #[.string s] ∧ New w w' := by
  have hmf : ∀ (fn : Fn) (first cap : Array Value) (w : World), (Instr.makeFunc fn first cap).run Tryz.prog w = .ok (.func fn first cap) w := fun _ _ _ _ => rfl
  go_enter Tryz.func361, Tryz.ntmps361
  go_wp2
  refine bodyPost_ret (results_cell1 rfl _ _ rfl (loadForm (Blk.new1 _ _ _ _))) rfl ⟨rfl, (Blk.new _ _ _).alloc _, ((New.refl w).alloc _).alloc _⟩

set_option maxHeartbeats 800000 in
theorem ffetched_any (w : World) : Calls Tryz.prog 358 #[] w fun e w' => e = .returned fetF ∧ New w w' := by
  go_enter Tryz.func358, Tryz.ntmps358
  go_wp2
  exact bodyPost_ret (results_cell1 rfl _ _ rfl (loadForm (Blk.new _ _ _))) rfl ⟨rfl, (New.refl w).alloc _⟩

set_option maxHeartbeats 800000 in
theorem ftagged_any (w : World) : Calls Tryz.prog 362 #[] w fun e w' => e = .returned tagF ∧ New w w' := by
  go_enter Tryz.func362, Tryz.ntmps362
  go_wp2
  exact bodyPost_ret (results_cell1 rfl _ _ rfl (loadForm (Blk.new _ _ _))) rfl ⟨rfl, (New.refl w).alloc _⟩

def formsL (g1 g2 g3 g6 g7 g8 g10 : Nat) : List (Int × Value) := (put (put (put (put (put (put (put (put (put (put [] 1 (numF g1)) 2 (numF g2)) 3 (numF g3)) 4 fetF) 5 flgF) 6 (txtF g6)) 7 (txtF g7)) 8 (txtF g8)) 9 tagF) 10 (txtF g10))
/-- The words of the forms. -/
def FormBs (w : World) (g1 g2 g3 g6 g7 g8 g10 : Nat) : Prop := Blk w g1 9 #[.string ⟨#[69, 88, 73, 83, 84, 83]⟩] ∧ Blk w g2 9 #[.string ⟨#[82, 69, 67, 69, 78, 84]⟩] ∧ Blk w g3 9 #[.string ⟨#[69, 88, 80, 85, 78, 71, 69]⟩] ∧ Blk w g6 9 #[.string ⟨#[42, 32, 79, 75]⟩] ∧ Blk w g7 9 #[.string ⟨#[42, 32, 66, 89, 69]⟩] ∧ Blk w g8 9 #[.string ⟨#[42, 32, 66, 65, 68]⟩] ∧ Blk w g10 9 #[.string ⟨#[43]⟩]
theorem forms_tagged (g1 g2 g3 g6 g7 g8 g10 : Nat) : get (formsL g1 g2 g3 g6 g7 g8 g10) 9 = some tagF := rfl

set_option maxRecDepth 100000 in
set_option maxHeartbeats 3200000 in
theorem forms_any (w : World) : Calls Tryz.prog 316 #[] w fun e w' => e = .returned (.map (some w.heap.size)) ∧ New w w' ∧ ∃ g1 g2 g3 g6 g7 g8 g10, FormBs w' g1 g2 g3 g6 g7 g8 g10 ∧ HasMap iKeys w' w.heap.size (formsL g1 g2 g3 g6 g7 g8 g10) := by
  have hmm := @run_makeMap Tryz.prog
  have h00 := HasMap.made iKeys w
  go_enter Tryz.func316, Tryz.ntmps316
  go_wp2_with (first
    | (go_at_call 357; refine (fnumber_any ⟨#[69, 88, 73, 83, 84, 83]⟩ _).mono ?_; rintro e cw1 ⟨rfl, cb1, cn1⟩; have ch1 := h00.fr cn1 id)
    | (refine wpList_ins (E := iKeys) rfl _ _ _ 429 428 rfl Tryz.underlying429 ch1 (Nat.lt_of_le_of_lt (Nat.le_refl 0) (by unfold maxLen; decide)) 1 (by show (Lit.int .i64 1).wf = true; decide) (numF _) rfl rfl rfl ?_; intro zw1 zm1 zo1)
    | (go_at_call 357; refine (fnumber_any ⟨#[82, 69, 67, 69, 78, 84]⟩ _).mono ?_; rintro e cw2 ⟨rfl, cb2, cn2⟩; have ch2 := zm1.fr cn2 id)
    | (refine wpList_ins (E := iKeys) rfl _ _ _ 429 428 rfl Tryz.underlying429 ch2 (Nat.lt_of_le_of_lt (ins_len (Nat.le_refl 0)) (by unfold maxLen; decide)) 2 (by show (Lit.int .i64 2).wf = true; decide) (numF _) rfl rfl rfl ?_; intro zw2 zm2 zo2)
    | (go_at_call 357; refine (fnumber_any ⟨#[69, 88, 80, 85, 78, 71, 69]⟩ _).mono ?_; rintro e cw3 ⟨rfl, cb3, cn3⟩; have ch3 := zm2.fr cn3 id)
    | (refine wpList_ins (E := iKeys) rfl _ _ _ 429 428 rfl Tryz.underlying429 ch3 (Nat.lt_of_le_of_lt (ins_len (ins_len (Nat.le_refl 0))) (by unfold maxLen; decide)) 3 (by show (Lit.int .i64 3).wf = true; decide) (numF _) rfl rfl rfl ?_; intro zw3 zm3 zo3)
    | (go_at_call 358; refine (ffetched_any _).mono ?_; rintro e cw4 ⟨rfl, cn4⟩; have ch4 := zm3.fr cn4 id)
    | (refine wpList_ins (E := iKeys) rfl _ _ _ 429 428 rfl Tryz.underlying429 ch4 (Nat.lt_of_le_of_lt (ins_len (ins_len (ins_len (Nat.le_refl 0)))) (by unfold maxLen; decide)) 4 (by show (Lit.int .i64 4).wf = true; decide) fetF rfl rfl rfl ?_; intro zw4 zm4 zo4)
    | (refine wpList_ins (E := iKeys) rfl _ _ _ 429 428 rfl Tryz.underlying429 zm4 (Nat.lt_of_le_of_lt (ins_len (ins_len (ins_len (ins_len (Nat.le_refl 0))))) (by unfold maxLen; decide)) 5 (by show (Lit.int .i64 5).wf = true; decide) flgF rfl rfl rfl ?_; intro zw5 zm5 zo5)
    | (go_at_call 361; refine (ftext_any ⟨#[42, 32, 79, 75]⟩ _).mono ?_; rintro e cw6 ⟨rfl, cb6, cn6⟩; have ch6 := zm5.fr cn6 id)
    | (refine wpList_ins (E := iKeys) rfl _ _ _ 429 428 rfl Tryz.underlying429 ch6 (Nat.lt_of_le_of_lt (ins_len (ins_len (ins_len (ins_len (ins_len (Nat.le_refl 0)))))) (by unfold maxLen; decide)) 6 (by show (Lit.int .i64 6).wf = true; decide) (txtF _) rfl rfl rfl ?_; intro zw6 zm6 zo6)
    | (go_at_call 361; refine (ftext_any ⟨#[42, 32, 66, 89, 69]⟩ _).mono ?_; rintro e cw7 ⟨rfl, cb7, cn7⟩; have ch7 := zm6.fr cn7 id)
    | (refine wpList_ins (E := iKeys) rfl _ _ _ 429 428 rfl Tryz.underlying429 ch7 (Nat.lt_of_le_of_lt (ins_len (ins_len (ins_len (ins_len (ins_len (ins_len (Nat.le_refl 0))))))) (by unfold maxLen; decide)) 7 (by show (Lit.int .i64 7).wf = true; decide) (txtF _) rfl rfl rfl ?_; intro zw7 zm7 zo7)
    | (go_at_call 361; refine (ftext_any ⟨#[42, 32, 66, 65, 68]⟩ _).mono ?_; rintro e cw8 ⟨rfl, cb8, cn8⟩; have ch8 := zm7.fr cn8 id)
    | (refine wpList_ins (E := iKeys) rfl _ _ _ 429 428 rfl Tryz.underlying429 ch8 (Nat.lt_of_le_of_lt (ins_len (ins_len (ins_len (ins_len (ins_len (ins_len (ins_len (Nat.le_refl 0)))))))) (by unfold maxLen; decide)) 8 (by show (Lit.int .i64 8).wf = true; decide) (txtF _) rfl rfl rfl ?_; intro zw8 zm8 zo8)
    | (go_at_call 362; refine (ftagged_any _).mono ?_; rintro e cw9 ⟨rfl, cn9⟩; have ch9 := zm8.fr cn9 id)
    | (refine wpList_ins (E := iKeys) rfl _ _ _ 429 428 rfl Tryz.underlying429 ch9 (Nat.lt_of_le_of_lt (ins_len (ins_len (ins_len (ins_len (ins_len (ins_len (ins_len (ins_len (Nat.le_refl 0))))))))) (by unfold maxLen; decide)) 9 (by show (Lit.int .i64 9).wf = true; decide) tagF rfl rfl rfl ?_; intro zw9 zm9 zo9)
    | (go_at_call 361; refine (ftext_any ⟨#[43]⟩ _).mono ?_; rintro e cw10 ⟨rfl, cb10, cn10⟩; have ch10 := zm9.fr cn10 id)
    | (refine wpList_ins (E := iKeys) rfl _ _ _ 429 428 rfl Tryz.underlying429 ch10 (Nat.lt_of_le_of_lt (ins_len (ins_len (ins_len (ins_len (ins_len (ins_len (ins_len (ins_len (ins_len (Nat.le_refl 0)))))))))) (by unfold maxLen; decide)) 10 (by show (Lit.int .i64 10).wf = true; decide) (txtF _) rfl rfl rfl ?_; intro zw10 zm10 zo10))
  have q1_0 := zo1.blk cb1 (Blk.not_map cb1 ch1)
  have q1_1 := cn2.blk q1_0
  have q1_2 := zo2.blk q1_1 (Blk.not_map q1_1 ch2)
  have q1_3 := cn3.blk q1_2
  have q1_4 := zo3.blk q1_3 (Blk.not_map q1_3 ch3)
  have q1_5 := cn4.blk q1_4
  have q1_6 := zo4.blk q1_5 (Blk.not_map q1_5 ch4)
  have q1_7 := zo5.blk q1_6 (Blk.not_map q1_6 zm4)
  have q1_8 := cn6.blk q1_7
  have q1_9 := zo6.blk q1_8 (Blk.not_map q1_8 ch6)
  have q1_10 := cn7.blk q1_9
  have q1_11 := zo7.blk q1_10 (Blk.not_map q1_10 ch7)
  have q1_12 := cn8.blk q1_11
  have q1_13 := zo8.blk q1_12 (Blk.not_map q1_12 ch8)
  have q1_14 := cn9.blk q1_13
  have q1_15 := zo9.blk q1_14 (Blk.not_map q1_14 ch9)
  have q1_16 := cn10.blk q1_15
  have q1_17 := zo10.blk q1_16 (Blk.not_map q1_16 ch10)
  have q2_0 := zo2.blk cb2 (Blk.not_map cb2 ch2)
  have q2_1 := cn3.blk q2_0
  have q2_2 := zo3.blk q2_1 (Blk.not_map q2_1 ch3)
  have q2_3 := cn4.blk q2_2
  have q2_4 := zo4.blk q2_3 (Blk.not_map q2_3 ch4)
  have q2_5 := zo5.blk q2_4 (Blk.not_map q2_4 zm4)
  have q2_6 := cn6.blk q2_5
  have q2_7 := zo6.blk q2_6 (Blk.not_map q2_6 ch6)
  have q2_8 := cn7.blk q2_7
  have q2_9 := zo7.blk q2_8 (Blk.not_map q2_8 ch7)
  have q2_10 := cn8.blk q2_9
  have q2_11 := zo8.blk q2_10 (Blk.not_map q2_10 ch8)
  have q2_12 := cn9.blk q2_11
  have q2_13 := zo9.blk q2_12 (Blk.not_map q2_12 ch9)
  have q2_14 := cn10.blk q2_13
  have q2_15 := zo10.blk q2_14 (Blk.not_map q2_14 ch10)
  have q3_0 := zo3.blk cb3 (Blk.not_map cb3 ch3)
  have q3_1 := cn4.blk q3_0
  have q3_2 := zo4.blk q3_1 (Blk.not_map q3_1 ch4)
  have q3_3 := zo5.blk q3_2 (Blk.not_map q3_2 zm4)
  have q3_4 := cn6.blk q3_3
  have q3_5 := zo6.blk q3_4 (Blk.not_map q3_4 ch6)
  have q3_6 := cn7.blk q3_5
  have q3_7 := zo7.blk q3_6 (Blk.not_map q3_6 ch7)
  have q3_8 := cn8.blk q3_7
  have q3_9 := zo8.blk q3_8 (Blk.not_map q3_8 ch8)
  have q3_10 := cn9.blk q3_9
  have q3_11 := zo9.blk q3_10 (Blk.not_map q3_10 ch9)
  have q3_12 := cn10.blk q3_11
  have q3_13 := zo10.blk q3_12 (Blk.not_map q3_12 ch10)
  have q6_0 := zo6.blk cb6 (Blk.not_map cb6 ch6)
  have q6_1 := cn7.blk q6_0
  have q6_2 := zo7.blk q6_1 (Blk.not_map q6_1 ch7)
  have q6_3 := cn8.blk q6_2
  have q6_4 := zo8.blk q6_3 (Blk.not_map q6_3 ch8)
  have q6_5 := cn9.blk q6_4
  have q6_6 := zo9.blk q6_5 (Blk.not_map q6_5 ch9)
  have q6_7 := cn10.blk q6_6
  have q6_8 := zo10.blk q6_7 (Blk.not_map q6_7 ch10)
  have q7_0 := zo7.blk cb7 (Blk.not_map cb7 ch7)
  have q7_1 := cn8.blk q7_0
  have q7_2 := zo8.blk q7_1 (Blk.not_map q7_1 ch8)
  have q7_3 := cn9.blk q7_2
  have q7_4 := zo9.blk q7_3 (Blk.not_map q7_3 ch9)
  have q7_5 := cn10.blk q7_4
  have q7_6 := zo10.blk q7_5 (Blk.not_map q7_5 ch10)
  have q8_0 := zo8.blk cb8 (Blk.not_map cb8 ch8)
  have q8_1 := cn9.blk q8_0
  have q8_2 := zo9.blk q8_1 (Blk.not_map q8_1 ch9)
  have q8_3 := cn10.blk q8_2
  have q8_4 := zo10.blk q8_3 (Blk.not_map q8_3 ch10)
  have q10_0 := zo10.blk cb10 (Blk.not_map cb10 ch10)
  rw [World.size_alloc] at q1_17
  go_ret
  exact ⟨rfl, (New.one (Fr.trans (New.one (Fr.trans (New.one (Fr.trans (New.one (Fr.trans (New.one (Fr.trans (New.one (New.one (Fr.trans (New.one (Fr.trans (New.one (Fr.trans (New.one (Fr.trans ((New.refl w).alloc _) cn1) zo1 (Nat.le_refl _)) cn2) zo2 (Nat.le_refl _)) cn3) zo3 (Nat.le_refl _)) cn4) zo4 (Nat.le_refl _)) zo5 (Nat.le_refl _)) cn6) zo6 (Nat.le_refl _)) cn7) zo7 (Nat.le_refl _)) cn8) zo8 (Nat.le_refl _)) cn9) zo9 (Nat.le_refl _)) cn10) zo10 (Nat.le_refl _)), _, _, _, _, _, _, _, ⟨q1_17, q2_15, q3_13, q6_8, q7_6, q8_4, q10_0⟩, zm10⟩
end Go.Proofs.YtliimglbbiebiaaGreatDoor
end

section
/- char.isAtom, char.Tag, char.Text: which bytes they accept. -/
namespace Go.Proofs.YtliimglbbiebiaaGreatDoor
open Go.RowKit

def setV (a b : Int) : Array Value := #[.int .u64 a, .int .u64 b, .int .u64 0, .int .u64 0]
def specialL : List Int := [40, 41, 123, 37, 42, 34, 92, 93]
def atomB (x : Int) : Bool := decide (32 < x) && decide (x ≤ 126) && !specialL.contains x
def tagB (x : Int) : Bool := x == 93 || (x != 43 && atomB x)
def textB (x : Int) : Bool := x != 0 && decide (x < 128) && x != 13 && x != 10

set_option maxHeartbeats 800000 in
theorem setadd_lo (x a b m : Int) (hx : x / 64 = 0) (hm : IntKind.u64.wrap ((2 : Int) ^ (x % 64).toNat) = m) {w : World} {g : Nat} (hg : Blk w g 216 (setV a b)) :
    Calls Tryz.prog 119 #[.pointer (some ⟨g, 0, none⟩), .int .u8 x] w fun e w' => e = .returned (.tuple #[]) ∧ Blk w' g 216 (setV (bits .or .u64 a m) b) ∧ One g w w' := by
  have c0 : w.cell? ⟨g, 0, none⟩ = some (.int .u64 a) := hg.cell 0
  have f0 : w.frozen? ⟨g, 0, none⟩ = false := hg.frozen 0
  go_enter Tryz.func119, Tryz.ntmps119
  go_region
  go_end0
  exact ⟨rfl, (hg.set_ 0 _).drew, ((One.refl g w).set 0 _).drew⟩
set_option maxHeartbeats 800000 in
theorem setadd_hi (x a b m : Int) (hx : x / 64 = 1) (hm : IntKind.u64.wrap ((2 : Int) ^ (x % 64).toNat) = m) {w : World} {g : Nat} (hg : Blk w g 216 (setV a b)) :
    Calls Tryz.prog 119 #[.pointer (some ⟨g, 0, none⟩), .int .u8 x] w fun e w' => e = .returned (.tuple #[]) ∧ Blk w' g 216 (setV a (bits .or .u64 b m)) ∧ One g w w' := by
  have c1 : w.cell? ⟨g, 1, none⟩ = some (.int .u64 b) := hg.cell 1
  have f1 : w.frozen? ⟨g, 1, none⟩ = false := hg.frozen 1
  go_enter Tryz.func119, Tryz.ntmps119
  go_region
  go_end0
  exact ⟨rfl, (hg.set_ 1 _).drew, ((One.refl g w).set 1 _).drew⟩

def setA : Int := 1099511627776 + 2199023255552 + 137438953472 + 4398046511104 + 17179869184
def setB : Int := 576460752303423488 + 268435456 + 536870912
def hasB (x : Int) : Bool := bits .and .u64 ((if x < 64 then setA else setB) / 2 ^ (x % 64).toNat) 1 == 1
theorem hasB_nat : ∀ n : Fin 128, hasB (n.val : Int) = specialL.contains (n.val : Int) := by decide +kernel
theorem hasB_eq {x : Int} (h0 : 0 ≤ x) (h1 : x < 128) : hasB x = specialL.contains x := by
  have h := hasB_nat ⟨x.toNat, by omega⟩
  have e : ((x.toNat : Nat) : Int) = x := by omega
  simpa only [e] using h

set_option maxHeartbeats 800000 in
theorem has_any (x : Int) (h0 : 0 ≤ x) (h1 : x < 128) (w : World) : Calls Tryz.prog 120 #[.agg (setV setA setB), .int .u8 x] w fun e w' => e = .returned (.bool (specialL.contains x)) ∧ New w w' := by
  rw [← hasB_eq h0 h1]
  unfold setV hasB
  by_cases h2 : x < 64
  · have h : x / 64 = 0 := by omega
    rw [if_pos h2]
    go_enter Tryz.func120, Tryz.ntmps120
    go_wp2
    go_ret
    exact ⟨rfl, (New.refl w).alloc _⟩
  · have h : x / 64 = 1 := by omega
    rw [if_neg h2]
    go_enter Tryz.func120, Tryz.ntmps120
    go_wp2
    go_ret
    exact ⟨rfl, (New.refl w).alloc _⟩

set_option maxHeartbeats 1600000 in
theorem isAtom_any (x : Int) (h0 : 0 ≤ x) (w : World) : Calls Tryz.prog 85 #[.int .u8 x] w fun e w' => e = .returned (.bool (atomB x)) ∧ New w w' := by
  have b0 : Blk (w.alloc (.cells (setV 0 0) 216)) w.heap.size 216 (setV 0 0) := Blk.new _ _ _
  have n0 : New w (w.alloc (.cells (setV 0 0) 216)) := (New.refl w).alloc _
  obtain ⟨r, hr⟩ : ∃ r, r = atomB x := ⟨_, rfl⟩
  rw [← hr]
  unfold atomB at hr
  have HR := Lib.hid hr
  clear hr
  go_enter Tryz.func85, Tryz.ntmps85
  go_wp2_with fail
  refine wp_loop_rounds 9 ?_
  rw [rounds_succ]
  go_wp2_with (go_at_call 119; refine (setadd_lo 40 _ _ 1099511627776 (by decide) (by decide) b0).mono ?_; rintro e w1 ⟨rfl, b1, o1⟩)
  rw [rounds_succ]
  go_wp2_with (go_at_call 119; refine (setadd_lo 41 _ _ 2199023255552 (by decide) (by decide) b1).mono ?_; rintro e w2 ⟨rfl, b2, o2⟩)
  rw [rounds_succ]
  go_wp2_with (go_at_call 119; refine (setadd_hi 123 _ _ 576460752303423488 (by decide) (by decide) b2).mono ?_; rintro e w3 ⟨rfl, b3, o3⟩)
  rw [rounds_succ]
  go_wp2_with (go_at_call 119; refine (setadd_lo 37 _ _ 137438953472 (by decide) (by decide) b3).mono ?_; rintro e w4 ⟨rfl, b4, o4⟩)
  rw [rounds_succ]
  go_wp2_with (go_at_call 119; refine (setadd_lo 42 _ _ 4398046511104 (by decide) (by decide) b4).mono ?_; rintro e w5 ⟨rfl, b5, o5⟩)
  rw [rounds_succ]
  go_wp2_with (go_at_call 119; refine (setadd_lo 34 _ _ 17179869184 (by decide) (by decide) b5).mono ?_; rintro e w6 ⟨rfl, b6, o6⟩)
  rw [rounds_succ]
  go_wp2_with (go_at_call 119; refine (setadd_hi 92 _ _ 268435456 (by decide) (by decide) b6).mono ?_; rintro e w7 ⟨rfl, b7, o7⟩)
  rw [rounds_succ]
  go_wp2_with (go_at_call 119; refine (setadd_hi 93 _ _ 536870912 (by decide) (by decide) b7).mono ?_; rintro e w8 ⟨rfl, b8, o8⟩)
  rw [rounds_succ]
  have n8 : New w w8 := ((((((((n0.one o1 (Nat.le_refl _)).one o2 (Nat.le_refl _)).one o3 (Nat.le_refl _)).one o4 (Nat.le_refl _)).one o5 (Nat.le_refl _)).one o6 (Nat.le_refl _)).one o7 (Nat.le_refl _)).one o8 (Nat.le_refl _))
  have b9 : Blk w8 w.heap.size 216 (setV setA setB) := b8
  clear b8 b7 b6 b5 b4 b3 b2 b1 b0 n0 o1 o2 o3 o4 o5 o6 o7 o8
  have q0 : w8.cell? ⟨w.heap.size, 0, none⟩ = some (.int .u64 setA) := b9.cell 0
  have q1 : w8.cell? ⟨w.heap.size, 1, none⟩ = some (.int .u64 setB) := b9.cell 1
  have q2 : w8.cell? ⟨w.heap.size, 2, none⟩ = some (.int .u64 0) := b9.cell 2
  have q3 : w8.cell? ⟨w.heap.size, 3, none⟩ = some (.int .u64 0) := b9.cell 3
  by_cases h1 : 32 < x
  · by_cases h2 : x ≤ 126
    · have hr := HR.out
      rw [decide_eq_true h1, decide_eq_true h2, Bool.true_and, Bool.true_and] at hr
      subst hr
      go_wp2_with (go_at_call 120; refine (has_any x h0 (by omega) w8).mono ?_; rintro e w9 ⟨rfl, n9⟩)
      go_ret
      exact ⟨by simp, n8.trans n9⟩
    · have hr := HR.out
      rw [decide_eq_false h2, Bool.and_false, Bool.false_and] at hr
      subst hr
      go_wp2
      go_ret
      exact ⟨rfl, n8⟩
  · have hr := HR.out
    rw [decide_eq_false h1, Bool.false_and, Bool.false_and] at hr
    subst hr
    go_wp2
    go_ret
    exact ⟨rfl, n8⟩

set_option maxHeartbeats 800000 in
theorem tag_any (x : Int) (h0 : 0 ≤ x) (w : World) : Calls Tryz.prog 62 #[.int .u8 x] w fun e w' => e = .returned (.bool (tagB x)) ∧ New w w' := by
  unfold tagB
  by_cases h1 : x = 93
  · subst h1
    go_enter Tryz.func62, Tryz.ntmps62
    go_wp2
    go_ret
    exact ⟨rfl, New.refl _⟩
  · have e1 : (x == 93) = false := by simp [h1]
    rw [e1, Bool.false_or]
    by_cases h2 : x = 43
    · subst h2
      go_enter Tryz.func62, Tryz.ntmps62
      go_wp2
      go_ret
      exact ⟨rfl, New.refl _⟩
    · have e2 : (x != 43) = true := by simp [h2]
      rw [e2, Bool.true_and]
      go_enter Tryz.func62, Tryz.ntmps62
      go_wp2_with (go_at_call 85; refine (isAtom_any x h0 _).mono ?_; rintro e w1 ⟨rfl, n1⟩)
      go_ret
      exact ⟨rfl, n1⟩

set_option maxHeartbeats 800000 in
theorem text_any (x : Int) (w : World) : Calls Tryz.prog 410 #[.int .u8 x] w fun e w' => e = .returned (.bool (textB x)) ∧ New w w' := by
  unfold textB
  by_cases h1 : x = 0
  · subst h1
    go_enter Tryz.func410, Tryz.ntmps410
    go_wp2
    go_ret
    exact ⟨rfl, New.refl _⟩
  · have e1 : (x != 0) = true := by simp [h1]
    by_cases h2 : x < 128
    · by_cases h3 : x = 13
      · subst h3
        go_enter Tryz.func410, Tryz.ntmps410
        go_wp2
        go_ret
        exact ⟨rfl, New.refl _⟩
      · have e3 : (x != 13) = true := by simp [h3]
        rw [e1, e3, decide_eq_true h2, Bool.true_and, Bool.true_and, Bool.true_and]
        go_enter Tryz.func410, Tryz.ntmps410
        go_wp2
        go_ret
        exact ⟨rfl, New.refl _⟩
    · rw [e1, decide_eq_false h2, Bool.true_and, Bool.false_and, Bool.false_and]
      go_enter Tryz.func410, Tryz.ntmps410
      go_wp2
      go_ret
      exact ⟨rfl, New.refl _⟩
end Go.Proofs.YtliimglbbiebiaaGreatDoor
end

section
/- char.All at a function value that only makes memory; which strings it accepts. -/
namespace Go.Proofs.YtliimglbbiebiaaGreatDoor
open Go.RowKit

/-- The bytes of a string, as numbers. -/
def bytesOf (s : ByteArray) : List Int := s.data.toList.map fun b => (b.toNat : Int)
theorem bytesOf_len (s : ByteArray) : (bytesOf s).length = s.size := by
  unfold bytesOf
  rw [List.length_map]
  rfl
theorem bytesOf_at (s : ByteArray) (k : Nat) (h : k < s.size) : (bytesOf s)[k]? = some ((s[k].toNat : Nat) : Int) := by
  unfold bytesOf
  rw [List.getElem?_map, List.getElem?_eq_getElem (show k < s.data.toList.length from h)]
  rfl

/-- Function f tells p of each byte, in whatever world that keeps what lay in w. -/
def BPred (w : World) (f : Nat) (p : Int → Bool) : Prop := ∀ (W : World) (x : Int), 0 ≤ x → x < 256 → New w W → Calls Tryz.prog f #[.int .u8 x] W fun e w' => e = .returned (.bool (p x)) ∧ New W w'

set_option maxRecDepth 100000 in
set_option maxHeartbeats 1600000 in
theorem all_any (f : Nat) (p : Int → Bool) (hE : ∀ args w, (callFunc f args).run Tryz.prog w = .ok (.enter f args) w) (s : ByteArray) (hs : s.size ≤ 1000000) (w : World) (hp : BPred w f p) :
    Calls Tryz.prog 84 #[.agg #[.func (.func f) #[] #[]], .string s] w fun e w' => e = .returned (.bool ((bytesOf s).all p)) ∧ New w w' := by
  obtain ⟨r, hr⟩ : ∃ r, r = (bytesOf s).all p := ⟨_, rfl⟩
  rw [← hr]
  have HR := Lib.hid hr
  clear hr
  go_enter Tryz.func84, Tryz.ntmps84
  go_wp2_with fail
  go_loopw [8] (fun vi wr => ∃ k : Nat, k ≤ s.size ∧ vi = .int .i64 k ∧ ((bytesOf s).take k).all p = true ∧ New w wr ∧ Blk wr w.heap.size 185 #[.func (.func f) #[] #[]]) (fun vi _ => s.size - (intOf vi).toNat)
  case atStart => exact ⟨0, Nat.zero_le _, rfl, rfl, (New.refl w).alloc _, Blk.new _ _ _⟩
  case round =>
    obtain ⟨k, hk, rfl, hall, hnew, hb⟩ := hrel
    by_cases hks : k < s.size
    · have c0 : wr.cell? ⟨w.heap.size, 0, none⟩ = some (.func (.func f) #[] #[]) := hb.cell 0
      have hcall := fun n => hp (wr.drewN n) ((s[k].toNat : Nat) : Int) (by omega) (by have := s[k].toNat_lt; omega) (hnew.drewN n)
      have HB := Lib.hid hb
      have HALL := Lib.hid hall
      have HAT := Lib.hid (take_snoc (bytesOf_at s k hks))
      have HM := Lib.hid (List.mem_of_getElem? (bytesOf_at s k hks))
      have HCALL := Lib.hid hcall
      clear hb hall hcall
      have hr : p ((s[k].toNat : Nat) : Int) = false → r = false := by
        intro h
        rw [HR.out, List.all_eq_false]
        exact ⟨_, HM.out, by rw [h]; simp⟩
      have HR2 := Lib.hid hr
      clear hr
      cases hpx : p ((s[k].toNat : Nat) : Int)
      all_goals
        rw [hpx] at HCALL
        go_wp2_with fail
        go_region_held3 (fun w' => w'.cell? ⟨w.heap.size, 0, none⟩ = some (.func (.func f) #[] #[])) (first | go_keep | assumption)
          ((first
            | (refine (HCALL.out _).mono ?_
               rintro e w1 ⟨rfl, hn1⟩
               have hn2 : New wr w1 := ((New.refl wr).drewN _).trans hn1
               have c1 : w1.cell? ⟨w.heap.size, 0, none⟩ = some (.func (.func f) #[] #[]) := Fr.cell hn2 c0 id)
            | fail))
      · have hr := HR2.out hpx
        subst hr
        go_wp2
        go_ret
        exact ⟨rfl, hnew.trans hn2⟩
      · go_wp2
        go_roundw
        case rel =>
          refine ⟨k + 1, by omega, by go_num, ?_, hnew.trans hn2, hn2.blk HB.out⟩
          rw [HAT.out, List.all_append, HALL.out]
          simp [hpx]
        case measure => simp [intOf]; omega
    · have hr : r = true := by
        rw [HR.out, ← hall, List.take_of_length_le (by rw [bytesOf_len]; omega)]
      subst hr
      go_wp2
      go_ret
      exact ⟨rfl, hnew⟩

theorem bytesOf_nil (s : ByteArray) : s.toList = [] ↔ bytesOf s = [] := by
  rw [ByteArray.toList_eq]
  unfold bytesOf
  rw [List.map_eq_nil_iff]
theorem bytesOf_emp (s : ByteArray) : s.toList.isEmpty = (bytesOf s).isEmpty := by
  rw [ByteArray.toList_eq]
  unfold bytesOf
  rw [List.isEmpty_map]

def allB (s : ByteArray) (p : Int → Bool) : Bool := !(bytesOf s).isEmpty && (bytesOf s).all p

set_option maxHeartbeats 800000 in
theorem All_any (f : Nat) (p : Int → Bool) (hE : ∀ args w, (callFunc f args).run Tryz.prog w = .ok (.enter f args) w) (s : ByteArray) (hs : s.size ≤ 1000000) (w : World) (hp : BPred w f p) :
    Calls Tryz.prog 61 #[.string s, .func (.func f) #[] #[]] w fun e w' => e = .returned (.bool (allB s p)) ∧ New w w' := by
  unfold allB
  rw [← bytesOf_emp]
  by_cases h : s.toList = []
  · have h2 : s.toList.isEmpty = true := by rw [h]; rfl
    rw [h2]
    go_enter Tryz.func61, Tryz.ntmps61
    go_wp2
    go_ret
    exact ⟨rfl, New.refl _⟩
  · have h2 : s.toList.isEmpty = false := by simpa using h
    rw [h2]
    go_enter Tryz.func61, Tryz.ntmps61
    go_wp2_with (go_at_call 84; refine (all_any f p hE s hs _ hp).mono ?_; rintro e w1 ⟨rfl, n1⟩)
    go_ret
    exact ⟨by simp, n1⟩

def tagS (s : ByteArray) : Bool := allB s tagB
def textS (s : ByteArray) : Bool := allB s textB
theorem All_tag (s : ByteArray) (hs : s.size ≤ 1000000) (w : World) : Calls Tryz.prog 61 #[.string s, .func (.func 62) #[] #[]] w fun e w' => e = .returned (.bool (tagS s)) ∧ New w w' :=
  All_any _ tagB (enters _ _ _ Tryz.func62 (by kernel_rfl) rfl) s hs w fun W x h0 _ _ => tag_any x h0 W
theorem All_text (s : ByteArray) (hs : s.size ≤ 1000000) (w : World) : Calls Tryz.prog 61 #[.string s, .func (.func 410) #[] #[]] w fun e w' => e = .returned (.bool (textS s)) ∧ New w w' :=
  All_any _ textB (enters _ _ _ Tryz.func410 (by kernel_rfl) rfl) s hs w fun W x h0 _ _ => text_any x W
end Go.Proofs.YtliimglbbiebiaaGreatDoor
end

