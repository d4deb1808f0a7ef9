/- A part of the proof: Full4, Full5, Full6, SAlive, SFull, Char3. -/
import Derived.Test.YtliimglbbiebiaaGreatDoorGTopFullAR
import Derived.Test.YtliimglbbiebiaaGreatDoorGTopFullAO
import Derived.Lib.SlBytesConst
import Derived.Test.YtliimglbbiebiaaGreatDoorGTopFullAP
import Derived.Laws.IdiomStrings
import Derived.StillTailTactics

section
/- A view: Apply at no event, at one arrival. -/
namespace Go.Proofs.YtliimglbbiebiaaGreatDoor
open Go.RowKit Go.Maps

section
variable {w : World} {v x : Nat} {u : Value} {l : List Int}

/-- The blocks that Apply lays first. -/
structure Ap (w wH : World) (v : Nat) : Prop where
  n : New w wH
  b : Blk wH w.heap.size 55 #[.pointer (some ⟨v, 0, none⟩)]
  o : Blk wH (w.heap.size + 1) 50 #[.slice none 0 0]
  a : Blk wH (w.heap.size + 1 + 1) 275 #[addF (w.heap.size + 1)]
  h : Blk wH (w.heap.size + 1 + 1 + 1) 278 #[.func (.func 176) #[.pointer (some ⟨v, 0, none⟩)] #[], .func (.func 177) #[.pointer (some ⟨v, 0, none⟩)] #[], .func (.func 178) #[.pointer (some ⟨v, 0, none⟩)] #[], .func (.func 179) #[.pointer (some ⟨v, 0, none⟩)] #[]]
theorem ap_any (w : World) (v : Nat) : Ap w ((((w.alloc (.cells #[.pointer (some ⟨v, 0, none⟩)] 55)).alloc (.cells #[.slice none 0 0] 50)).alloc (.cells #[.func (.func 174) #[] #[.pointer (some ⟨w.heap.size + 1, 0, none⟩)]] 275)).alloc (.cells #[.func (.func 176) #[.pointer (some ⟨v, 0, none⟩)] #[], .func (.func 177) #[.pointer (some ⟨v, 0, none⟩)] #[], .func (.func 178) #[.pointer (some ⟨v, 0, none⟩)] #[], .func (.func 179) #[.pointer (some ⟨v, 0, none⟩)] #[]] 278)) v := by
  refine ⟨((((New.refl w).alloc _).alloc _).alloc _).alloc _, (((Blk.new _ _ _).alloc _).alloc _).alloc _, ((Blk.new1 _ _ _ _).alloc _).alloc _, ?_, ?_⟩
  · have := Blk.new1 (w.alloc (.cells #[.pointer (some ⟨v, 0, none⟩)] 55)) (.cells #[.slice none 0 0] 50) 275 #[addF (w.heap.size + 1)]
    rw [World.size_alloc] at this
    exact this.alloc _
  · have := Blk.new1 ((w.alloc (.cells #[.pointer (some ⟨v, 0, none⟩)] 55)).alloc (.cells #[.slice none 0 0] 50)) (.cells #[.func (.func 174) #[] #[.pointer (some ⟨w.heap.size + 1, 0, none⟩)]] 275) 278 #[.func (.func 176) #[.pointer (some ⟨v, 0, none⟩)] #[], .func (.func 177) #[.pointer (some ⟨v, 0, none⟩)] #[], .func (.func 178) #[.pointer (some ⟨v, 0, none⟩)] #[], .func (.func 179) #[.pointer (some ⟨v, 0, none⟩)] #[]]
    rw [World.size_alloc, World.size_alloc] at this
    exact this

set_option maxRecDepth 100000 in
set_option maxHeartbeats 1600000 in
theorem apply_nil (hv : VW w v x false) (hi : IdxU 0 w x u l) (hl : l.length ≤ 100000) (A : Option Addr) (c : Nat) :
    Calls Tryz.prog 123 #[.pointer (some ⟨v, 0, none⟩), .slice A 0 c] w fun e w' => e = .returned (.slice none 0 0) ∧ VW w' v x false ∧ Fr (fun k => k = v) w w' := by
  have hmf : ∀ (fn : Fn) (first cap : Array Value) (w : World), (Instr.makeFunc fn first cap).run Tryz.prog w = .ok (.func fn first cap) w := fun _ _ _ _ => rfl
  have HI := Lib.hid hi
  have hap := ap_any w v
  clear hi
  go_enter Tryz.func123, Tryz.ntmps123
  go_wp2_with fail
  generalize ((((w.alloc (.cells #[.pointer (some ⟨v, 0, none⟩)] 55)).alloc (.cells #[.slice none 0 0] 50)).alloc (.cells #[.func (.func 174) #[] #[.pointer (some ⟨w.heap.size + 1, 0, none⟩)]] 275)).alloc (.cells #[.func (.func 176) #[.pointer (some ⟨v, 0, none⟩)] #[], .func (.func 177) #[.pointer (some ⟨v, 0, none⟩)] #[], .func (.func 178) #[.pointer (some ⟨v, 0, none⟩)] #[], .func (.func 179) #[.pointer (some ⟨v, 0, none⟩)] #[]] 278)) = wH at *
  have hvH := hap.n.blk hv
  have hE := exists_no (AB := w.heap.size + 1 + 1) (VB := w.heap.size) (OB := w.heap.size + 1) (hap.a.cell 0) (hap.b.cell 0) hvH (HI.out.new hap.n) hl
  have HE := Lib.hid hE
  have HAP := Lib.hid hap
  clear hE hvH hap
  refine wp_loop_rounds 1 ?_
  rw [rounds_succ]
  go_wp2_with fail
  refine HE.out.mono ?_
  rintro e w2 ⟨rfl, hv2, f2⟩
  have hsv := hv.lt
  have o2 := f2.blk HAP.out.o (by omega)
  have p0 : w2.cell? ⟨w.heap.size + 1, 0, none⟩ = some (.slice none 0 0) := o2.cell 0
  go_wp2
  go_ret
  exact ⟨rfl, hv2, Fr.trans (New.to HAP.out.n) f2⟩

set_option maxRecDepth 100000 in
set_option maxHeartbeats 3200000 in
theorem apply_one (hv : VW w v x false) (hi : IdxU 0 w x u l) (hl : l.length ≤ 50000) (A : Option Addr) (c : Nat) (uid fl : Int) (he : Rd evE w (.slice A 1 c) [⟨1, uid, fl⟩]) (h0 : uid ≠ 0) (htop : ∀ y ∈ l, y < uid) :
    Calls Tryz.prog 123 #[.pointer (some ⟨v, 0, none⟩), .slice A 1 c] w fun e w' => ∃ o, e = .returned o ∧ Own rspE 53 w.heap.size w' o [existsR (l.length + 1)] ∧ VW w' v x false ∧ ∃ u', IdxU 0 w' x u' (l ++ [uid]) ∧ Fr (fun k => k = v ∨ k = x ∨ u.ownBlock = some k) w w' ∧ Stays w u u' := by
  have hmf : ∀ (fn : Fn) (first cap : Array Value) (w : World), (Instr.makeFunc fn first cap).run Tryz.prog w = .ok (.func fn first cap) w := fun _ _ _ _ => rfl
  obtain ⟨A', c', e', hc', hcell⟩ := he
  cases e'
  obtain ⟨eb, eo, rfl, hce⟩ := hcell (by simp)
  have e0 : w.cell? ⟨eb, eo, none⟩ = some (.int .i64 1) := hce 0 _ rfl 0 _ rfl
  have e1 : w.cell? ⟨eb, eo + 1, none⟩ = some (.int .u32 uid) := hce 0 _ rfl 1 _ rfl
  have e2 : w.cell? ⟨eb, eo + 2, none⟩ = some (.int .u8 fl) := hce 0 _ rfl 2 _ rfl
  have HI := Lib.hid hi
  have hap := ap_any w v
  clear hi hcell hce
  go_enter Tryz.func123, Tryz.ntmps123
  go_wp2_with fail
  generalize ((((w.alloc (.cells #[.pointer (some ⟨v, 0, none⟩)] 55)).alloc (.cells #[.slice none 0 0] 50)).alloc (.cells #[.func (.func 174) #[] #[.pointer (some ⟨w.heap.size + 1, 0, none⟩)]] 275)).alloc (.cells #[.func (.func 176) #[.pointer (some ⟨v, 0, none⟩)] #[], .func (.func 177) #[.pointer (some ⟨v, 0, none⟩)] #[], .func (.func 178) #[.pointer (some ⟨v, 0, none⟩)] #[], .func (.func 179) #[.pointer (some ⟨v, 0, none⟩)] #[]] 278)) = wH at *
  have k0 : wH.cell? ⟨eb, eo, none⟩ = some (.int .i64 1) := Fr.cell hap.n e0 id
  have k1 : wH.cell? ⟨eb, eo + 1, none⟩ = some (.int .u32 uid) := Fr.cell hap.n e1 id
  have k2 : wH.cell? ⟨eb, eo + 2, none⟩ = some (.int .u8 fl) := Fr.cell hap.n e2 id
  have HTOP := Lib.hid htop
  clear htop
  refine wp_loop_rounds 2 ?_
  rw [rounds_succ]
  go_wp2_with fail
  have nE : New w (wH.alloc (.cells #[.int .i64 1, .int .u32 uid, .int .u8 fl] 232)) := hap.n.alloc _
  have bE := Blk.new wH 232 #[.int .i64 1, .int .u32 uid, .int .u8 fl]
  have aE := hap.a.alloc (.cells #[.int .i64 1, .int .u32 uid, .int .u8 fl] 232)
  have hE := hap.h.alloc (.cells #[.int .i64 1, .int .u32 uid, .int .u8 fl] 232)
  have oE := hap.o.alloc (.cells #[.int .i64 1, .int .u32 uid, .int .u8 fl] 232)
  have vE := hap.b.alloc (.cells #[.int .i64 1, .int .u32 uid, .int .u8 fl] 232)
  have hsH := hap.h.lt
  have hsE : (wH.alloc (.cells #[.int .i64 1, .int .u32 uid, .int .u8 fl] 232)).heap.size = wH.heap.size + 1 := World.size_alloc _ _
  have HSE := Lib.hid (And.intro hsH hsE)
  clear hsH hsE
  generalize (wH.alloc (.cells #[.int .i64 1, .int .u32 uid, .int .u8 fl] 232)) = wE at *
  generalize wH.heap.size = EB at *
  clear k0 k1 k2 e0 e1 e2 hap
  have hvE := nE.blk hv
  have HIE := Lib.hid (HI.out.new nE)
  have K : ∀ g e cs, Blk wE g e cs → e ≠ 111 → e ≠ 163 → e ≠ 28 → ¬ (g = v ∨ g = x ∨ u.ownBlock = some g) := fun g e cs hb n1 n2 n3 hk => by
    rcases hk with hk | hk | hk
    · exact hb.ne_ hvE n1 hk
    · exact hb.ne_ HIE.out.1 n2 hk
    · obtain ⟨cs', hcs'⟩ := HIE.out.2.1.heap hk
      exact hb.ne_ hcs' n3 rfl
  have k0 : wE.cell? ⟨w.heap.size + 1 + 1, 0, none⟩ = some (addF (w.heap.size + 1)) := aE.cell 0
  have k1 : wE.cell? ⟨w.heap.size + 1 + 1 + 1, 1, none⟩ = some (.func (.func 177) #[.pointer (some ⟨v, 0, none⟩)] #[]) := hE.cell 1
  have k2 : wE.cell? ⟨EB, 0, none⟩ = some (.int .i64 1) := bE.cell 0
  have k3 : wE.cell? ⟨EB, 1, none⟩ = some (.int .u32 uid) := bE.cell 1
  have k4 : wE.cell? ⟨EB, 2, none⟩ = some (.int .u8 fl) := bE.cell 2
  have HK := Lib.hid K
  clear K
  go_region_held3 (fun W => W.cell? ⟨w.heap.size + 1 + 1, 0, none⟩ = some (addF (w.heap.size + 1)) ∧ W.cell? ⟨w.heap.size + 1 + 1 + 1, 1, none⟩ = some (.func (.func 177) #[.pointer (some ⟨v, 0, none⟩)] #[]) ∧ W.cell? ⟨EB, 0, none⟩ = some (.int .i64 1) ∧ W.cell? ⟨EB, 1, none⟩ = some (.int .u32 uid) ∧ W.cell? ⟨EB, 2, none⟩ = some (.int .u8 fl)) (first | go_keep | (refine ⟨?_, ?_, ?_, ?_, ?_⟩ <;> assumption)) ((first
    | (go_at_call 177
       refine (arrived_top (Fr.blk (S := fun _ => False) (by repeat' first | exact New.refl _ | apply Fr.alloc | apply Fr.drewN | apply Fr.drew) hvE id) (HIE.out.new (by repeat' first | exact New.refl _ | apply Fr.alloc | apply Fr.drewN | apply Fr.drew)) (by omega) uid fl h0 HTOP.out 1).mono ?_
       rintro e w2 ⟨rfl, hv2, u', hi2, f2, st2⟩
       have F2 : Fr (fun k => k = v ∨ k = x ∨ u.ownBlock = some k) wE w2 := Fr.trans (New.to (by repeat' first | exact New.refl _ | apply Fr.alloc | apply Fr.drewN | apply Fr.drew)) f2
       have a2 := F2.blk aE (HK.out _ _ _ aE (by decide) (by decide) (by decide))
       have h2 := F2.blk hE (HK.out _ _ _ hE (by decide) (by decide) (by decide))
       have b2 := F2.blk bE (HK.out _ _ _ bE (by decide) (by decide) (by decide))
       have o2 := F2.blk oE (HK.out _ _ _ oE (by decide) (by decide) (by decide))
       have y2 := F2.blk vE (HK.out _ _ _ vE (by decide) (by decide) (by decide))
       have p0 : w2.cell? ⟨w.heap.size + 1 + 1, 0, none⟩ = some (addF (w.heap.size + 1)) := a2.cell 0
       have p1 : w2.cell? ⟨w.heap.size + 1 + 1 + 1, 1, none⟩ = some (.func (.func 177) #[.pointer (some ⟨v, 0, none⟩)] #[]) := h2.cell 1
       have p2 : w2.cell? ⟨EB, 0, none⟩ = some (.int .i64 1) := b2.cell 0
       have p3 : w2.cell? ⟨EB, 1, none⟩ = some (.int .u32 uid) := b2.cell 1
       have p4 : w2.cell? ⟨EB, 2, none⟩ = some (.int .u8 fl) := b2.cell 2
       have HI2 := Lib.hid hi2
       have HST := Lib.hid st2
       have HF2 := Lib.hid F2
       clear hi2 st2 f2 F2)
    | (go_at_call 174
       refine (add_no (OB := w.heap.size + 1) ⟨0, 0, ⟨#[]⟩, 0, ⟨#[]⟩, 0, 0, 0, 0, none, 0, 0⟩ w2).mono ?_
       rintro e w3 ⟨rfl, n3⟩
       have a3 := n3.blk a2
       have h3 := n3.blk h2
       have b3 := n3.blk b2
       have q0 : w3.cell? ⟨w.heap.size + 1 + 1, 0, none⟩ = some (addF (w.heap.size + 1)) := a3.cell 0
       have q1 : w3.cell? ⟨w.heap.size + 1 + 1 + 1, 1, none⟩ = some (.func (.func 177) #[.pointer (some ⟨v, 0, none⟩)] #[]) := h3.cell 1
       have q2 : w3.cell? ⟨EB, 0, none⟩ = some (.int .i64 1) := b3.cell 0
       have q3 : w3.cell? ⟨EB, 1, none⟩ = some (.int .u32 uid) := b3.cell 1
       have q4 : w3.cell? ⟨EB, 2, none⟩ = some (.int .u8 fl) := b3.cell 2)
    | fail))
  have hlen : (l ++ [uid]).length = l.length + 1 := by simp
  have hEX := exists_yes (AB := w.heap.size + 1 + 1) (VB := w.heap.size) (OB := w.heap.size + 1) (vo := .slice none 0 0) (lo := []) (base := w.heap.size) q0 ((n3.blk y2).cell 0) (n3.blk hv2) (HI2.out.new n3) (by rw [hlen]; omega) (n3.blk o2) (Own.nil _ _ _ _) (by simp) (by have := (n3.blk o2).lt; omega) (by omega) (by omega) (by intro h; cases h) (by intro h; cases h)
  rw [hlen] at hEX
  have HEX := Lib.hid hEX
  have N3 := Lib.hid n3
  clear hEX hlen a3 h3 b3 q0 q1 q2 q3 q4 a2 h2 b2 o2 y2 p0 p1 p2 p3 p4 aE hE bE oE vE k0 k1 k2 k3 k4 n3
  go_wp2_with fail
  rw [rounds_succ]
  go_wp2_with fail
  refine HEX.out.mono ?_
  rintro e w4 ⟨rfl, hv4, vo4, o4, ho4, f4, st4⟩
  have r0 : w4.cell? ⟨w.heap.size + 1, 0, none⟩ = some vo4 := o4.cell 0
  go_wp2
  go_ret
  have hsv := hv.lt
  have hsx := HI.out.1.lt
  have f4' : Fr (fun k => k = v ∨ k = w.heap.size + 1) w3 w4 := f4.mono fun k _ hk => by
    rcases hk with h | h | h
    · exact .inl h
    · exact .inr h
    · cases h
  have hi3 := HI2.out.new N3.out
  have hi4 := hi3.fr f4' (by
    rintro (e | e)
    · exact hi3.1.ne_ (N3.out.blk hv2) (by decide) e
    · omega) (fun b hb => by
    obtain ⟨cs, hcs⟩ := hi3.2.1.heap hb
    rintro (e | e)
    · subst e; exact hcs.ne_ (N3.out.blk hv2) (by decide) rfl
    · have hst := HST.out
      rcases hst with h | ⟨b', h, h'⟩
      · rw [h] at hb
        have := (HI.out.2.1.block hb).2
        omega
      · rw [h] at hb; injection hb with hb
        have := HSE.out
        have e5 : wE.drew.heap.size = wE.heap.size := rfl
        omega)
  refine ⟨_, rfl, ho4, hv4, u', hi4, Fr.trans' (Fr.trans (New.to (nE.trans (New.refl _))) (HF2.out.trans (New.to N3.out))) f4' (fun i hi h => ?_), ?_⟩
  · rcases h with h | h
    · exact .inl h
    · omega
  · rcases HST.out with h | ⟨b', h, h'⟩
    · exact .inl h
    · exact .inr ⟨b', h, by have := nE.size; have e5 : wE.drew.heap.size = wE.heap.size := rfl; omega⟩
end
end Go.Proofs.YtliimglbbiebiaaGreatDoor
end

section
/- exec: leave, enter, flush, of one session at a mailbox. -/
namespace Go.Proofs.YtliimglbbiebiaaGreatDoor
open Go.RowKit Go.Maps

section
variable {w0 w : World} {base : Nat} {S : Sx} {Q : Qs} {M : List Msg} {n t f : Int} {x : Nat} {i : Int}
set_option maxHeartbeats 800000 in
theorem leave_none (h : STX w0 base w S Q M n t f) (hs : Ses w x (.pointer (some ⟨S.s, 0, none⟩)) i none false) (h0 : 0 ≤ i) (h1 : i ≤ 9223372036854775807) (hi : i ∉ Q.ids) :
    Calls Tryz.prog 90 #[.pointer (some ⟨x, 0, none⟩)] w fun e w' => e = .returned (.tuple #[]) ∧ Ses w' x (.pointer (some ⟨S.s, 0, none⟩)) i none false ∧ One x w w' := by
  obtain ⟨k0, k1, k2, k3⟩ := hs.all4
  have f2 := hs.frozen 2
  have H := Lib.hid (fun q => sunsub_none (h.more ((New.refl w).drewN q)) i h0 h1 hi)
  clear h hi
  go_enter Tryz.func90, Tryz.ntmps90
  go_wp2_with fail
  go_quiet ((go_at_call 125; exact Calls.quiet_of_same (H.out _)))
  have f2' : (w.drewN nq).frozen? ⟨x, 2, none⟩ = false := f2
  have k2' : (w.drewN nq).cell? ⟨x, 2, none⟩ = some (.pointer none) := k2
  go_wp2
  go_end0
  exact ⟨rfl, (hs.drewN nq).set_ 2 _, One.set (Fr.drewN (One.refl x w) nq) 2 _⟩
end

/-- A session with a view, the only subscriber (0): what it is told stands in its queue; its view has the identifiers l. -/
structure FV (w0 : World) (base : Nat) (w : World) (S : Sx) (Q : Qs) (M : List Msg) (n t f : Int) (xs v x : Nat) (u : Value) (l : List Int) : Prop where
  st : STX w0 base w S Q M n t f
  ses : Ses w xs (.pointer (some ⟨S.s, 0, none⟩)) 0 (some ⟨v, 0, none⟩) false
  vw : VW w v x false
  ix : IdxU 0 w x u l
  bx : base ≤ xs
  bv : base ≤ v
  nx : ¬ S.foot Q x
  nu : ∀ g, u.ownBlock = some g → ¬ S.foot Q g
  q1 : Q.ids = [0]
  lx : w0.heap.size ≤ xs
  lv : w0.heap.size ≤ v
  li : w0.heap.size ≤ x
  lu : ∀ g, u.ownBlock = some g → w0.heap.size ≤ g

section
variable {w0 w w' : World} {base : Nat} {S S' : Sx} {Q Q' : Qs} {M M' : List Msg} {n t f n' t' f' : Int} {xs v x : Nat} {u : Value} {l : List Int}
theorem FV.fx (h : FV w0 base w S Q M n t f xs v x u l) : ¬ S.foot Q xs := h.st.not_foot h.ses h.bx (by decide) (by decide) (by decide) (by decide) (by decide) (by decide)
theorem FV.fv (h : FV w0 base w S Q M n t f xs v x u l) : ¬ S.foot Q v := h.st.not_foot h.vw h.bv (by decide) (by decide) (by decide) (by decide) (by decide) (by decide)
/-- The mailbox has turned. -/
theorem FV.store (h : FV w0 base w S Q M n t f xs v x u l) (hst : STX w0 base w' S' Q' M' n' t' f') (hS : S'.s = S.s) (hf : Fr (S.foot Q) w w') (hft : ∀ k, S'.foot Q' k → S.foot Q k ∨ w.heap.size ≤ k) (hq : Q'.ids = [0]) : FV w0 base w' S' Q' M' n' t' f' xs v x u l where
  st := hst
  ses := by rw [hS]; exact hf.blk h.ses h.fx
  vw := hf.blk h.vw h.fv
  ix := h.ix.fr hf h.nx h.nu
  bx := h.bx
  bv := h.bv
  nx := fun hk => by
    rcases hft _ hk with hk | hk
    · exact h.nx hk
    · have := h.ix.1.lt; omega
  nu := fun g hg hk => by
    rcases hft _ hk with hk | hk
    · exact h.nu g hg hk
    · have := (h.ix.2.1.block hg).2; omega
  q1 := hq
  lx := h.lx
  lv := h.lv
  li := h.li
  lu := h.lu
theorem FV.new (h : FV w0 base w S Q M n t f xs v x u l) (hn : New w w') : FV w0 base w' S Q M n t f xs v x u l :=
  h.store (h.st.more hn) rfl (New.to hn) (fun _ hk => .inl hk) h.q1

/-- The view has turned. -/
theorem FV.view (h : FV w0 base w S Q M n t f xs v x u l) {u' : Value} {l' : List Int} (hv : VW w' v x false) (hi : IdxU 0 w' x u' l') (hf : Fr (fun k => k = v ∨ k = x ∨ u.ownBlock = some k) w w') (hst : Stays w u u') : FV w0 base w' S Q M n t f xs v x u' l' where
  st := h.st.keep hf (fun k hk e => by
      rcases e with e | e | e
      · subst e; exact h.fv hk
      · subst e; exact h.nx hk
      · exact h.nu k e hk) (fun vv ll ho b hb e => by
      obtain ⟨cs, hcs⟩ := ho.heap hb
      rcases e with e | e | e
      · subst e; exact hcs.ne_ h.vw (by decide) rfl
      · subst e; exact hcs.ne_ h.ix.1 (by decide) rfl
      · obtain ⟨cs', hcs'⟩ := h.ix.2.1.heap e
        exact hcs.ne_ hcs' (by decide) rfl) (fun k e => by
      rcases e with e | e | e
      · subst e; exact h.lv
      · subst e; exact h.li
      · exact h.lu k e)
  ses := hf.blk h.ses (fun e => by
      rcases e with e | e | e
      · exact h.ses.ne_ h.vw (by decide) e
      · exact h.ses.ne_ h.ix.1 (by decide) e
      · obtain ⟨cs', hcs'⟩ := h.ix.2.1.heap e
        exact h.ses.ne_ hcs' (by decide) rfl)
  vw := hv
  ix := hi
  bx := h.bx
  bv := h.bv
  nx := h.nx
  nu := fun g hg hk => by
    rcases hst with e | ⟨b, e, hb⟩
    · rw [e] at hg; exact h.nu g hg hk
    · rw [e] at hg; injection hg with hg; have := h.st.foot_lt hk; omega
  q1 := h.q1
  lx := h.lx
  lv := h.lv
  li := h.li
  lu := fun g hg => by
    rcases hst with e | ⟨b, e, hb⟩
    · rw [e] at hg; exact h.lu g hg
    · rw [e] at hg; injection hg with hg; have := h.st.new.size; omega
end
end Go.Proofs.YtliimglbbiebiaaGreatDoor
end

section
/- exec: enter, flush, of one session at a mailbox. -/
namespace Go.Proofs.YtliimglbbiebiaaGreatDoor
open Go.RowKit Go.Maps

section
variable {w0 w w' : World} {base : Nat} {S : Sx} {Q : Qs} {M : List Msg} {n t f : Int} {xs v x : Nat} {u : Value} {l : List Int}

set_option maxRecDepth 100000 in
set_option maxHeartbeats 1600000 in
theorem enter_new (h : STX w0 base w S Qs.none [] n t f) (hs : Ses w xs (.pointer (some ⟨S.s, 0, none⟩)) 0 none false) (hbx : base ≤ xs) (hlx : w0.heap.size ≤ xs) :
    Calls Tryz.prog 92 #[.pointer (some ⟨xs, 0, none⟩)] w fun e w' => e = .returned (.tuple #[]) ∧ ∃ b v x u, FV w0 base w' S (Qs.none.add 0 b) [] n t f xs v x u [] ∧ Fr (fun k => k = xs ∨ S.foot Qs.none k) w w' := by
  obtain ⟨k0, k1, k2, k3⟩ := hs.all4
  have hxn : ¬ S.foot Qs.none xs := h.not_foot hs hbx (by decide) (by decide) (by decide) (by decide) (by decide) (by decide)
  have H := Lib.hid h
  have hhb := h.hb
  have hnw := h.new.size
  clear h
  go_enter Tryz.func92, Tryz.ntmps92
  go_wp2_with fail
  go_region_held3 (fun W => W.cell? ⟨xs, 0, none⟩ = some (.pointer (some ⟨S.s, 0, none⟩)) ∧ W.cell? ⟨xs, 1, none⟩ = some (.int .i64 0)) (first | go_keep | (refine ⟨?_, ?_⟩ <;> assumption)) ((first
    | (go_at_call 127
       refine (ssub_any (H.out.more (by repeat' first | exact New.refl _ | apply Fr.alloc | apply Fr.drewN | apply Fr.drew)) 0 (by omega) (by omega) (by simp [Qs.none]) (by simp [Qs.none])).mono ?_
       rintro e w2 ⟨A, c, b, rfl, ho, hst, hb, f2⟩
       have F2 : Fr (S.foot Qs.none) w w2 := Fr.trans (New.to (by repeat' first | exact New.refl _ | apply Fr.alloc | apply Fr.drewN | apply Fr.drew)) f2
       have hs2 := F2.blk hs hxn
       have p0 : w2.cell? ⟨xs, 0, none⟩ = some (.pointer (some ⟨S.s, 0, none⟩)) := hs2.cell 0
       have p1 : w2.cell? ⟨xs, 1, none⟩ = some (.int .i64 0) := hs2.cell 1
       have HO := Lib.hid ho.rd
       have HST := Lib.hid hst
       have HF2 := Lib.hid F2
       clear ho hst f2 F2)
    | fail))
  have hvn := vnew_nil _ HO.out
  have HVN := Lib.hid hvn
  clear hvn
  go_wp2_with fail
  refine HVN.out.mono ?_
  rintro e w3 ⟨v, x, u, rfl, hv3, hi3, hlv, hlx', hlu, n3⟩
  have hs3 := n3.blk hs2
  have q2 : w3.cell? ⟨xs, 2, none⟩ = some (.pointer none) := hs3.cell 2
  have z2 := hs3.frozen 2
  go_wp2
  go_end0
  have hsz := HF2.out.size
  have o3 : One xs w3 (w3.setCell ⟨xs, 2, none⟩ (.pointer (some ⟨v, 0, none⟩))) := (One.refl xs w3).set 2 _
  have hst3 := HST.out.more n3
  have hfx : ¬ S.foot (Qs.none.add 0 b) xs := hst3.not_foot hs3 hbx (by decide) (by decide) (by decide) (by decide) (by decide) (by decide)
  have hlt2 : ∀ k, S.foot (Qs.none.add 0 b) k → k < w2.heap.size := fun k hk => HST.out.foot_lt hk
  have hsx := hs.lt
  refine ⟨rfl, b, v, x, u, ?_, Fr.trans (Fr.trans (HF2.out.mono fun _ _ h => .inr h) (New.to n3)) (o3.mono fun _ _ h => .inl h)⟩
  exact {
    st := hst3.keep o3 (fun k hk e => by subst e; exact hfx hk) (fun vv ll ho' b' hb' e => ho'.blk_ne hs3 (by decide) (by rw [← e]; exact hb')) (fun k e => by subst e; exact hlx)
    ses := hs3.set_ 2 _
    vw := o3.blk hv3 (hv3.ne_ hs3 (by decide))
    ix := hi3.fr o3 (hi3.1.ne_ hs3 (by decide)) (fun b' hb' e => by have := hlu b' hb'; omega)
    bx := hbx
    bv := by omega
    nx := fun hk => by have := hlt2 _ hk; omega
    nu := fun g hg hk => by have := hlt2 _ hk; have := hlu g hg; omega
    q1 := by simp [Qs.none, Qs.add]
    lx := hlx
    lv := by omega
    li := by omega
    lu := fun g hg => by have := hlu g hg; omega }

theorem sq_one (e : Ev) : squeeze ([e].filter fun x => true || decide (x.k ≠ 2)) = [e] := by simp [squeeze, later]

set_option maxRecDepth 100000 in
set_option maxHeartbeats 1600000 in
theorem flush_empty (h : FV w0 base w S Q M n t f xs v x u l) (hq : Q.l 0 = []) (hl : l.length ≤ 50000) :
    Calls Tryz.prog 88 #[.pointer (some ⟨xs, 0, none⟩), .bool true] w fun e w' => e = .returned (.slice none 0 0) ∧ ∃ v', FV w0 base w' S (Q.upd 0 v' []) M n t f xs v x u l ∧ Fr (fun k => S.foot Q k ∨ k = v) w w' := by
  obtain ⟨k0, k1, k2, k3⟩ := h.ses.all4
  have H := Lib.hid h
  have hi0 : (0 : Int) ∈ Q.ids := by rw [h.q1]; simp
  have HI := Lib.hid hi0
  have HQ := Lib.hid hq
  clear h hi0 hq
  go_enter Tryz.func88, Tryz.ntmps88
  go_wp2_with fail
  go_region_held3 (fun W => W.cell? ⟨xs, 0, none⟩ = some (.pointer (some ⟨S.s, 0, none⟩)) ∧ W.cell? ⟨xs, 1, none⟩ = some (.int .i64 0) ∧ W.cell? ⟨xs, 2, none⟩ = some (.pointer (some ⟨v, 0, none⟩))) (first | go_keep | (refine ⟨?_, ?_, ?_⟩ <;> assumption)) ((first
    | (go_at_call 124
       refine (sflush_x (H.out.st.more (by repeat' first | exact New.refl _ | apply Fr.alloc | apply Fr.drewN | apply Fr.drew)) 0 (by omega) (by omega) HI.out true (by rw [HQ.out]; simp)).mono ?_
       rintro e w2 ⟨A, c, v', he, ho, hst, f2, hv'⟩
       rw [HQ.out] at he ho hst
       have he2 : e = .returned (.slice A 0 c) := he
       subst he2
       have F2 : Fr (S.foot Q) w w2 := Fr.trans (New.to (by repeat' first | exact New.refl _ | apply Fr.alloc | apply Fr.drewN | apply Fr.drew)) f2
       have hft : ∀ k, S.foot (Q.upd 0 v' []) k → S.foot Q k ∨ w.heap.size ≤ k := fun k hk => by
         rcases hk with hk | hk | hk | hk | hk | hk | hk
         · exact .inl (.inl hk)
         · exact .inl (.inr (.inl hk))
         · exact .inl (.inr (.inr (.inl hk)))
         · exact .inl (.inr (.inr (.inr (.inl hk))))
         · exact .inl (.inr (.inr (.inr (.inr (.inl hk)))))
         · exact .inl (.inr (.inr (.inr (.inr (.inr (.inl hk))))))
         · rcases Qs.upd_foot (m := w.heap.size) (fun g hg => hv' g hg) hk with hk | hk
           · exact .inl (.inr (.inr (.inr (.inr (.inr (.inr hk))))))
           · exact .inr hk
       have V2 := H.out.store hst rfl F2 hft H.out.q1
       have hs2 := V2.ses
       have p0 : w2.cell? ⟨xs, 0, none⟩ = some (.pointer (some ⟨S.s, 0, none⟩)) := hs2.cell 0
       have p1 : w2.cell? ⟨xs, 1, none⟩ = some (.int .i64 0) := hs2.cell 1
       have p2 : w2.cell? ⟨xs, 2, none⟩ = some (.pointer (some ⟨v, 0, none⟩)) := hs2.cell 2
       have HF2 := Lib.hid F2
       have HV2 := Lib.hid V2
       clear ho hst f2 F2 hft V2 hv' he)
    | (go_at_call 123
       refine (apply_nil HV2.out.vw HV2.out.ix (by omega) A c).mono ?_
       rintro e w3 ⟨rfl, hv3, f3⟩
       have F3 : Fr (fun k => k = v ∨ k = x ∨ u.ownBlock = some k) w2 w3 := f3.mono fun _ _ h => .inl h
       have V3 := HV2.out.view hv3 (HV2.out.ix.fr f3 (fun e => HV2.out.ix.1.ne_ HV2.out.vw (by decide) e) (fun b hb e => by
         obtain ⟨cs, hcs⟩ := HV2.out.ix.2.1.heap hb
         subst e
         exact hcs.ne_ HV2.out.vw (by decide) rfl)) F3 (.inl rfl)
       have hs3 := V3.ses
       have q0 : w3.cell? ⟨xs, 0, none⟩ = some (.pointer (some ⟨S.s, 0, none⟩)) := hs3.cell 0
       have q1 : w3.cell? ⟨xs, 1, none⟩ = some (.int .i64 0) := hs3.cell 1
       have q2 : w3.cell? ⟨xs, 2, none⟩ = some (.pointer (some ⟨v, 0, none⟩)) := hs3.cell 2)
    | fail))
  go_wp2
  go_ret
  exact ⟨rfl, v', V3, Fr.trans (HF2.out.mono fun _ _ h => .inl h) (f3.mono fun _ _ h => .inr h)⟩
set_option maxRecDepth 100000 in
set_option maxHeartbeats 1600000 in
theorem flush_one (h : FV w0 base w S Q M n t f xs v x u l) (uid : Int) (hq : Q.l 0 = [⟨1, uid, 0⟩]) (hl : l.length ≤ 50000) (h0 : uid ≠ 0) (htop : ∀ y ∈ l, y < uid) :
    Calls Tryz.prog 88 #[.pointer (some ⟨xs, 0, none⟩), .bool true] w fun e w' => ∃ o, e = .returned o ∧ Own rspE 53 w.heap.size w' o [existsR (l.length + 1)] ∧ ∃ v' u', FV w0 base w' S (Q.upd 0 v' []) M n t f xs v x u' (l ++ [uid]) ∧ Fr (fun k => S.foot Q k ∨ k = v ∨ k = x ∨ u.ownBlock = some k) w w' := by
  obtain ⟨k0, k1, k2, k3⟩ := h.ses.all4
  have H := Lib.hid h
  have hi0 : (0 : Int) ∈ Q.ids := by rw [h.q1]; simp
  have HI := Lib.hid hi0
  have HQ := Lib.hid hq
  have HTOP := Lib.hid htop
  clear h hi0 hq htop
  go_enter Tryz.func88, Tryz.ntmps88
  go_wp2_with fail
  go_region_held3 (fun W => W.cell? ⟨xs, 0, none⟩ = some (.pointer (some ⟨S.s, 0, none⟩)) ∧ W.cell? ⟨xs, 1, none⟩ = some (.int .i64 0) ∧ W.cell? ⟨xs, 2, none⟩ = some (.pointer (some ⟨v, 0, none⟩))) (first | go_keep | (refine ⟨?_, ?_, ?_⟩ <;> assumption)) ((first
    | (go_at_call 124
       refine (sflush_x (H.out.st.more (by repeat' first | exact New.refl _ | apply Fr.alloc | apply Fr.drewN | apply Fr.drew)) 0 (by omega) (by omega) HI.out true (by rw [HQ.out]; simp)).mono ?_
       rintro e w2 ⟨A, c, v', he, ho, hst, f2, hv'⟩
       rw [HQ.out, sq_one] at he ho
       rw [HQ.out] at hst
       have he2 : e = .returned (.slice A 1 c) := he
       have hev : Rd evE w2 (.slice A 1 c) [⟨1, uid, 0⟩] := ho.rd
       have hst2 : STX w0 base w2 S (Q.upd 0 v' []) M n t f := hst
       subst he2
       have F2 : Fr (S.foot Q) w w2 := Fr.trans (New.to (by repeat' first | exact New.refl _ | apply Fr.alloc | apply Fr.drewN | apply Fr.drew)) f2
       have hft : ∀ k, S.foot (Q.upd 0 v' []) k → S.foot Q k ∨ w.heap.size ≤ k := fun k hk => by
         rcases hk with hk | hk | hk | hk | hk | hk | hk
         · exact .inl (.inl hk)
         · exact .inl (.inr (.inl hk))
         · exact .inl (.inr (.inr (.inl hk)))
         · exact .inl (.inr (.inr (.inr (.inl hk))))
         · exact .inl (.inr (.inr (.inr (.inr (.inl hk)))))
         · exact .inl (.inr (.inr (.inr (.inr (.inr (.inl hk))))))
         · rcases Qs.upd_foot (m := w.heap.size) (fun g hg => hv' g hg) hk with hk | hk
           · exact .inl (.inr (.inr (.inr (.inr (.inr (.inr hk))))))
           · exact .inr hk
       have V2 := H.out.store hst2 rfl F2 hft H.out.q1
       have hs2 := V2.ses
       have p0 : w2.cell? ⟨xs, 0, none⟩ = some (.pointer (some ⟨S.s, 0, none⟩)) := hs2.cell 0
       have p1 : w2.cell? ⟨xs, 1, none⟩ = some (.int .i64 0) := hs2.cell 1
       have p2 : w2.cell? ⟨xs, 2, none⟩ = some (.pointer (some ⟨v, 0, none⟩)) := hs2.cell 2
       have HF2 := Lib.hid F2
       have HV2 := Lib.hid V2
       have HEV := Lib.hid hev
       clear ho hst hst2 hev f2 F2 hft V2 hv' he)
    | (go_at_call 123
       refine (apply_one HV2.out.vw HV2.out.ix hl A c uid 0 HEV.out h0 HTOP.out).mono ?_
       rintro e w3 ⟨o, rfl, ho3, hv3, u', hi3, F3, st3⟩
       have V3 := HV2.out.view hv3 hi3 F3 st3
       have HO3 := Lib.hid ho3
       clear ho3 hi3 st3
       have hs3 := V3.ses
       have q0 : w3.cell? ⟨xs, 0, none⟩ = some (.pointer (some ⟨S.s, 0, none⟩)) := hs3.cell 0
       have q1 : w3.cell? ⟨xs, 1, none⟩ = some (.int .i64 0) := hs3.cell 1
       have q2 : w3.cell? ⟨xs, 2, none⟩ = some (.pointer (some ⟨v, 0, none⟩)) := hs3.cell 2)
    | fail))
  go_wp2
  go_ret
  exact ⟨o, rfl, HO3.out.mono HF2.out.size, v', u', V3, Fr.trans (HF2.out.mono fun _ _ h => .inl h) (F3.mono fun _ _ h => .inr h)⟩
end
end Go.Proofs.YtliimglbbiebiaaGreatDoor
end

section
/- The chapter's example of a mailbox. -/
namespace Go.Proofs.YtliimglbbiebiaaGreatDoor
open Go.RowKit Go.Maps

theorem rd_const {w : World} {C : Array Value} {fr : Nat × Nat} (l : List Int) (hl : C.toList = (intE .u8).cells l) : Rd (intE .u8) (w.alloc (.cells C 5 fr)) (.slice (some ⟨w.heap.size, 0, none⟩) l.length l.length) l := by
  refine ⟨_, _, rfl, Nat.le_refl _, fun _ => ⟨w.heap.size, 0, rfl, fun i x hx j u hu => ?_⟩⟩
  rw [cell_of_row _ w.heap.size _ C _ fr (heap_alloc_new w _), Nat.zero_add, ← Array.getElem?_toList, hl]
  exact (intE .u8).cells_at hx hu

theorem squeeze1 : squeeze (([(⟨1, 1, 0⟩ : Ev)]).filter fun x => true || decide (x.k ≠ 2)) = [⟨1, 1, 0⟩] := by decide

end Go.Proofs.YtliimglbbiebiaaGreatDoor
end

section
/- StoreFull: the walk. -/
namespace Go.Proofs.YtliimglbbiebiaaGreatDoor
open Go.RowKit Go.Maps

theorem snext_any {w0 w : World} {base : Nat} {S : Sx} {Q : Qs} {M : List Msg} {n t f : Int} (h : STX w0 base w S Q M n t f) : Calls Tryz.prog 21 #[.pointer (some ⟨S.s, 0, none⟩)] w fun e w' => e = .returned (.int .u32 n) ∧ w = w' := by
  have e1 : w.cell? ⟨S.s, 1, none⟩ = some (.pointer (some ⟨S.c, 0, none⟩)) := h.hd.cell 1
  have HN := Lib.hid (next_any h.ctr)
  clear h
  go_enter Tryz.func21, Tryz.ntmps21
  go_wp2_with fail
  refine HN.out.mono ?_
  rintro e w5 ⟨rfl, rfl⟩
  go_wp2
  go_ret
  exact ⟨rfl, rfl⟩

/-- The mailbox behind i calls of Append. -/
structure FuR (w wr : World) (base : Nat) (s : Nat) (N K : Nat) (i : Nat) (S : Sx) (Q : Qs) (M : List Msg) (n t f : Int) : Prop where
  st : STX w base wr S Q M n t f
  s_ : S.s = s
  cap : S.cap = N
  ids : Q.ids = []
  len : M.length = min i (min N K)
  n_ : n = 4294967295 - K + M.length

end Go.Proofs.YtliimglbbiebiaaGreatDoor
end

section
/- char.Upper, char.Same. -/
namespace Go.Proofs.YtliimglbbiebiaaGreatDoor
open Go.RowKit

def upU (c : UInt8) : UInt8 := if 97 ≤ c ∧ c ≤ 122 then c - 32 else c
theorem upU_bits : ∀ c : Fin 256, 97 ≤ c.val → c.val ≤ 122 → bits .andNot .u8 (c.val : Int) 32 = (((upU (UInt8.ofNat c.val)).toNat : Nat) : Int) := by decide +kernel
theorem upU_no : ∀ c : Fin 256, (c.val < 97 ∨ 122 < c.val) → ((c.val : Nat) : Int) = (((upU (UInt8.ofNat c.val)).toNat : Nat) : Int) := by decide +kernel

set_option maxHeartbeats 800000 in
theorem upper2_any (c : UInt8) (w : World) : Calls Tryz.prog 182 #[.int .u8 (c.toNat : Int)] w fun e w' => e = .returned (.int .u8 ((upU c).toNat : Int)) ∧ w = w' := by
  have hc : UInt8.ofNat c.toNat = c := by simp
  have h1 := upU_bits ⟨c.toNat, c.toNat_lt⟩
  have h2 := upU_no ⟨c.toNat, c.toNat_lt⟩
  simp only [hc] at h1 h2
  have h3 : 97 ≤ (c.toNat : Int) → (c.toNat : Int) ≤ 122 → bits .andNot .u8 (c.toNat : Int) 32 = ((upU c).toNat : Int) := fun ha hb => h1 (by omega) (by omega)
  have h4 : ((c.toNat : Int) < 97 ∨ 122 < (c.toNat : Int)) → (c.toNat : Int) = ((upU c).toNat : Int) := fun h => h2 (by omega)
  clear h1 h2 hc
  generalize (c.toNat : Int) = x at *
  generalize ((upU c).toNat : Int) = y at *
  by_cases h97 : 97 ≤ x
  · by_cases h122 : x ≤ 122
    · have hb := h3 h97 h122
      clear h3 h4
      go_enter Tryz.func182, Tryz.ntmps182
      go_wp2
      go_ret
      rw [← hb]
      exact ⟨rfl, rfl⟩
    · have hb := h4 (by omega)
      subst hb
      clear h3 h4
      go_enter Tryz.func182, Tryz.ntmps182
      go_wp2
      go_ret
      exact ⟨rfl, rfl⟩
  · have hb := h4 (by omega)
    subst hb
    clear h3 h4
    go_enter Tryz.func182, Tryz.ntmps182
    go_wp2
    go_ret
    exact ⟨rfl, rfl⟩

/-- A row of bytes in block g, which may be written. -/
def BRow (w : World) (g : Nat) (l : List UInt8) : Prop := ∀ i x, l[i]? = some x → w.cell? ⟨g, i, none⟩ = some (.int .u8 (x.toNat : Int)) ∧ w.frozen? ⟨g, i, none⟩ = false
theorem BRow.set_ {w : World} {g : Nat} {l : List UInt8} (h : BRow w g l) (k : Nat) (y : UInt8) : BRow (w.setCell ⟨g, k, none⟩ (.int .u8 (y.toNat : Int))) g (l.set k y) := by
  intro i x hx
  rw [World.frozen?_setCell]
  by_cases hik : k = i
  · subst hik
    have hl : k < (l.set k y).length := (List.getElem?_eq_some_iff.1 hx).1
    rw [List.length_set] at hl
    rw [List.getElem?_set_self hl] at hx
    injection hx with hx
    subst hx
    obtain ⟨z, hz⟩ : ∃ z, l[k]? = some z := ⟨_, List.getElem?_eq_getElem hl⟩
    exact ⟨World.cell?_setCell_same _ _ _ (h k z hz).1, (h k z hz).2⟩
  · rw [List.getElem?_set_ne hik] at hx
    refine ⟨?_, (h i x hx).2⟩
    rw [World.cell?_setCell_other _ _ _ _ (fun e => hik (Addr.mk.inj e).2.1)]
    exact (h i x hx).1

theorem upmid_len (l : List UInt8) (k : Nat) (h : k < l.length) : ((l.take k).map upU).length = k := by
  rw [List.length_map, List.length_take]
  omega
theorem upmid_at (l : List UInt8) (k : Nat) (h : k < l.length) : ((l.take k).map upU ++ l.drop k)[k]? = some l[k] := by
  rw [List.getElem?_append_right (by rw [upmid_len l k h]; exact Nat.le_refl _), upmid_len l k h, Nat.sub_self, List.getElem?_drop, Nat.add_zero, List.getElem?_eq_getElem h]
theorem upmid_set (l : List UInt8) (k : Nat) (h : k < l.length) : ((l.take k).map upU ++ l.drop k).set k (upU l[k]) = (l.take (k + 1)).map upU ++ l.drop (k + 1) := by
  rw [List.set_append_right _ _ (by rw [upmid_len l k h]; exact Nat.le_refl _), upmid_len l k h, Nat.sub_self, List.take_succ_eq_append_getElem h, List.map_append, List.drop_eq_getElem_cons h, List.set_cons_zero]
  simp

set_option maxRecDepth 100000 in
set_option maxHeartbeats 1600000 in
theorem upper1_any (b g : Nat) (l : List UInt8) (c : Nat) (hl : l.length ≤ 1000000) (hbg : b ≠ g) (w : World) (hb : w.cell? ⟨b, 0, none⟩ = some (.slice (some ⟨g, 0, none⟩) l.length c)) (hr : BRow w g l) :
    Calls Tryz.prog 181 #[.func (.func 182) #[] #[], .pointer (some ⟨b, 0, none⟩)] w fun e w' => e = .returned (.tuple #[]) ∧ BRow w' g (l.map upU) ∧ One g w w' := by
  go_enter Tryz.func181, Tryz.ntmps181
  go_wp2_with fail
  go_loopw [7] (fun vi wr => ∃ k : Nat, k ≤ l.length ∧ vi = .int .i64 k ∧ BRow wr g ((l.take k).map upU ++ l.drop k) ∧ One g w wr) (fun vi _ => l.length - (intOf vi).toNat)
  case atStart => exact ⟨0, Nat.zero_le _, rfl, by simpa using hr, One.refl _ _⟩
  case round =>
    obtain ⟨k, hk, rfl, hrow, hone⟩ := hrel
    by_cases hkl : k < l.length
    · have c0 : wr.cell? ⟨b, 0, none⟩ = some (.slice (some ⟨g, 0, none⟩) l.length c) := Fr.cell hone hb (fun e => hbg e)
      have hat := upmid_at l k hkl
      have hset := upmid_set l k hkl
      obtain ⟨x, ex⟩ : ∃ x, x = l[k] := ⟨_, rfl⟩
      rw [← ex] at hat hset
      have c1 := (hrow k x hat).1
      have f1 := (hrow k x hat).2
      have c1' : ∀ n, (wr.drewN n).cell? ⟨g, k, none⟩ = some (.int .u8 (x.toNat : Int)) := fun n => c1
      have cst : ∀ v, (wr.setCell ⟨g, k, none⟩ v).drew.cell? ⟨b, 0, none⟩ = some (.slice (some ⟨g, 0, none⟩) l.length c) := fun v => (World.cell?_setCell_other wr ⟨g, k, none⟩ ⟨b, 0, none⟩ v (by intro e; injection e with e; exact hbg e.symm)).trans c0
      have HROW := Lib.hid hrow
      have HSET := Lib.hid hset
      clear hrow hat hset ex
      go_wp2_with fail
      go_region_held3 (fun w' => w'.cell? ⟨b, 0, none⟩ = some (.slice (some ⟨g, 0, none⟩) l.length c)) (first | go_keep | assumption | exact cst _)
        ((first
          | (go_at_call 182
             refine (upper2_any x _).mono ?_
             rintro e w1 ⟨rfl, rfl⟩
             have c1 : wr.drew.cell? ⟨b, 0, none⟩ = some (.slice (some ⟨g, 0, none⟩) l.length c) := c0)
          | fail))
      go_wp2
      go_roundw
      case rel =>
        refine ⟨k + 1, by omega, by go_num, ?_, (hone.set k _).drew⟩
        rw [← HSET.out]
        exact (HROW.out.set_ k _)
      case measure => simp [intOf]; omega
    · go_wp2
      go_end0
      have e1 : l.take k = l := List.take_of_length_le (by omega)
      have e2 : l.drop k = [] := List.drop_eq_nil_of_le (by omega)
      rw [e1, e2, List.append_nil] at hrow
      exact ⟨rfl, hrow, hone⟩

theorem bytesRow_at (s : ByteArray) (cap i : Nat) (x : UInt8) (h : s.data.toList[i]? = some x) : (bytesRow s cap)[i]? = some (.int .u8 (x.toNat : Int)) := by
  have hi : i < s.data.toList.length := (List.getElem?_eq_some_iff.1 h).1
  unfold bytesRow
  rw [Array.getElem?_append_left (by simpa using hi), Array.getElem?_map]
  rw [Array.getElem?_toList] at h
  rw [h]
  rfl

/-- A string in capital letters. -/
def upS (s : ByteArray) : ByteArray := ⟨(s.data.toList.map upU).toArray⟩

set_option maxRecDepth 100000 in
set_option maxHeartbeats 1600000 in
theorem upper_any (s : ByteArray) (hs : s.size ≤ 1000000) (w : World) : Calls Tryz.prog 126 #[.string s] w fun e w' => e = .returned (.string (upS s)) ∧ New w w' := by
  have hconv := run_bytes_of_string (P := Tryz.prog) w 9 23 5 s Tryz.underlying9 Tryz.underlying23 Tryz.underlying5
  have hmf : ∀ (fn : Fn) (first cap : Array Value) (w : World), (Instr.makeFunc fn first cap).run Tryz.prog w = .ok (.func fn first cap) w := fun _ _ _ _ => rfl
  have hsl : s.data.toList.length = s.size := rfl
  obtain ⟨C, hC⟩ : ∃ C, C = bytesRow s (grownCap w s.size 0 5) := ⟨_, rfl⟩
  obtain ⟨cap, hcap⟩ : ∃ cap, cap = grownCap w s.size 0 5 := ⟨_, rfl⟩
  have hrow0 : BRow (w.drew.alloc (.cells C 5 (C.size, C.size + 1))) w.heap.size s.data.toList := by
    intro i x hx
    have h1 : C[i]? = some (.int .u8 (x.toNat : Int)) := by rw [hC]; exact bytesRow_at s _ i x hx
    have h2 : i < C.size := (Array.getElem?_eq_some_iff.1 h1).1
    refine ⟨?_, ?_⟩
    · show (w.alloc (.cells C 5 (C.size, C.size + 1))).cell? ⟨w.heap.size, i, none⟩ = _
      simp [World.alloc, World.cell?, -World.alloc_eq, h1]
    · show (w.alloc (.cells C 5 (C.size, C.size + 1))).frozen? ⟨w.heap.size, i, none⟩ = _
      rw [World.frozen?_alloc_mark]
      simp
      omega
  rw [← hC, ← hcap] at hconv
  have HROW := Lib.hid hrow0
  clear hrow0 hC hcap
  have hbox : Blk ((w.alloc (.cells C 5 (C.size, C.size + 1))).alloc (.cells #[.slice (some ⟨w.heap.size, 0, none⟩) s.size cap] 23)).drew (w.heap.size + 1) 23 #[.slice (some ⟨w.heap.size, 0, none⟩) s.size cap] := (Blk.new1 _ _ _ _)
  have hrow1 : BRow ((w.alloc (.cells C 5 (C.size, C.size + 1))).alloc (.cells #[.slice (some ⟨w.heap.size, 0, none⟩) s.size cap] 23)).drew w.heap.size s.data.toList := by
    intro i x hx
    obtain ⟨h1, h2⟩ := HROW.out i x hx
    refine ⟨?_, ?_⟩
    · show ((w.alloc _).alloc _).cell? _ = _
      rw [World.cell?_alloc_past _ _ _ (by simp)]
      exact h1
    · show ((w.alloc _).alloc _).frozen? _ = _
      rw [World.frozen?_alloc_past _ _ _ (by simp)]
      exact h2
  have hnew1 : New w ((w.alloc (.cells C 5 (C.size, C.size + 1))).alloc (.cells #[.slice (some ⟨w.heap.size, 0, none⟩) s.size cap] 23)).drew := (((New.refl w).alloc _).alloc _).drew
  have hcall := upper1_any (w.heap.size + 1) w.heap.size s.data.toList cap (by rw [hsl]; exact hs) (by omega) _ (hbox.cell 0) hrow1
  have HCALL := Lib.hid hcall
  have HROW1 := Lib.hid hrow1
  clear HROW hcall hrow1
  go_enter Tryz.func126, Tryz.ntmps126
  go_wp2_with fail
  refine HCALL.out.mono ?_
  rintro e w1 ⟨rfl, hr, ho⟩
  have c0 : w1.cell? ⟨w.heap.size + 1, 0, none⟩ = some (.slice (some ⟨w.heap.size, 0, none⟩) s.size cap) := (ho.blk hbox (by omega)).cell 0
  have hback : (convert 23 9 (.slice (some ⟨w.heap.size, 0, none⟩) s.size cap)).run Tryz.prog w1 = .ok (.string (upS s)) w1 := by
    have h := run_convert_bytes_back (P := Tryz.prog) w1 23 9 5 ⟨w.heap.size, 0, none⟩ cap (s.data.toList.map upU) Tryz.underlying23 Tryz.underlying5 Tryz.underlying9 (fun j hj => by
      rw [Addr.add_lit, Nat.zero_add]
      exact (hr j _ (List.getElem?_eq_getElem hj)).1)
    rw [List.length_map] at h
    exact h
  go_wp2
  go_ret
  exact ⟨rfl, hnew1.one ho (Nat.le_refl _)⟩

def sameB (a b : ByteArray) : Bool := a.data.toList.map upU == b.data.toList.map upU

set_option maxHeartbeats 400000 in
theorem same_any (a b : ByteArray) (ha : a.size ≤ 1000000) (hb : b.size ≤ 1000000) (w : World) : Calls Tryz.prog 91 #[.string a, .string b] w fun e w' => e = .returned (.bool (sameB a b)) ∧ New w w' := by
  go_enter Tryz.func91, Tryz.ntmps91
  go_wp2_with fail
  refine (upper_any a ha w).mono ?_
  rintro e w1 ⟨rfl, n1⟩
  go_wp2_with fail
  refine (upper_any b hb w1).mono ?_
  rintro e w2 ⟨rfl, n2⟩
  go_wp2
  go_ret
  refine ⟨?_, n1.trans n2⟩
  show Ending.returned (Value.bool ((upS a).toList == (upS b).toList)) = _
  rw [ByteArray.toList_eq, ByteArray.toList_eq]
  rfl
end Go.Proofs.YtliimglbbiebiaaGreatDoor
end

