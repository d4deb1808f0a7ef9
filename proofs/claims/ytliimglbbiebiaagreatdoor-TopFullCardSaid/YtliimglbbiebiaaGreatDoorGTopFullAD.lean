/- A part of the proof: Clos, Put. -/
import Derived.Test.YtliimglbbiebiaaGreatDoorGTopFullAC
import Derived.Deep.RegionHeld3

section
/- The functions that a table hands to its stripes: put, get, remove, change of flags. -/
namespace Go.Proofs.YtliimglbbiebiaaGreatDoor
open Go.RowKit Go.Maps

theorem okU {k : Int} (h0 : 0 ≤ k) (h1 : k ≤ 4294967295) : uKeys.ok k := by
  show (Lit.int .u32 k).wf = true
  have h2 : IntKind.u32.min ≤ k := by rw [show IntKind.u32.min = 0 from rfl]; exact h0
  have h3 : k ≤ IntKind.u32.max := by rw [show IntKind.u32.max = 4294967295 from rfl]; exact h1
  simp [Lit.wf, h2, h3]

set_option maxRecDepth 100000 in
set_option maxHeartbeats 1600000 in
/-- Put's: the identifier is there. -/
theorem put1_has {w : World} {mb g eb : Nat} {l : List (Int × Value)} {x y : MB} (h : HasMap uKeys w mb l) (hk : uKeys.ok x.m.uid) (hg : Blk w g 238 #[.int .u32 x.m.uid, .int .u8 x.m.fl, x.bv]) (he : Blk w eb 198 #[.int .i64 0])
    (hl : get l x.m.uid = some y.val) :
    Calls Tryz.prog 239 #[.map (some mb), .pointer (some ⟨g, 0, none⟩), .pointer (some ⟨eb, 0, none⟩)] w fun e w' => e = .returned (.tuple #[]) ∧ (Blk w' eb 198 #[.int .i64 8] ∧ One eb w w') := by
  obtain ⟨⟨uid, fl, body⟩, A, n, c⟩ := x
  obtain ⟨⟨uid', fl', body'⟩, A', n', c'⟩ := y
  simp only [MB.bv, MB.val] at hg hl hk ⊢
  have hlk := h.run_look_ok (t := 136) (e := 238) Tryz.underlying136 (zeroMsg w) hk
  rw [hl] at hlk
  simp only [Option.getD_some, Option.isSome_some] at hlk
  change (Instr.lookup 136 (.map (some mb)) (.int .u32 uid) true).run Tryz.prog w = _ at hlk
  have c0 : w.cell? ⟨g, 0, none⟩ = some (.int .u32 uid) := hg.cell 0
  have hel := he.lt
  have e1 := fun cs => (Blk.alloc he (.cells cs 238))
  have ec := fun cs => (e1 cs).cell 0
  have ef := fun cs => (e1 cs).frozen 0
  clear hl
  go_enter Tryz.func239, Tryz.ntmps239
  go_wp2
  first | go_end0 | (simp only [Exit.inBlock, Exit.then]; refine bodyPost_ret (results_none rfl _ _ _) rfl ?_) | refine bodyPost_ret (results_none rfl _ _ _) rfl ?_
  exact ⟨rfl, (he.set_ 0 _).alloc _, ((One.refl _ _).set 0 _).alloc _⟩

set_option maxRecDepth 100000 in
set_option maxHeartbeats 3200000 in
/-- Put's: it is not: a message with a body of its own is laid there. -/
theorem put1_new {w : World} {mb g eb : Nat} {l : List (Int × Value)} {x : MB} (h : HasMap uKeys w mb l) (hk : uKeys.ok x.m.uid) (hln : l.length < maxLen) (hg : Blk w g 238 #[.int .u32 x.m.uid, .int .u8 x.m.fl, x.bv]) (_he : Blk w eb 198 #[.int .i64 0])
    (hb : Rd (intE .u8) w x.bv x.m.body) (hbl : x.m.body.length ≤ 100000) (hl : get l x.m.uid = none) :
    Calls Tryz.prog 239 #[.map (some mb), .pointer (some ⟨g, 0, none⟩), .pointer (some ⟨eb, 0, none⟩)] w fun e w' => e = .returned (.tuple #[]) ∧ ∃ y : MB, y.m = x.m ∧ HasMap uKeys w' mb (put l x.m.uid y.val) ∧ Own (intE .u8) 5 w.heap.size w' y.bv y.m.body ∧ One mb w w' := by
  have hlk := h.run_look_ok (t := 136) (e := 238) Tryz.underlying136 (zeroMsg w) hk
  rw [hl] at hlk
  simp only [Option.getD_none, Option.isSome_none] at hlk
  have HB := Lib.hid hb
  have HG := Lib.hid hg
  obtain ⟨x, rfl⟩ : ∃ x', x' = x := ⟨_, rfl⟩
  have hm := hg.cell
  obtain ⟨⟨uid, fl, body⟩, A, n, c⟩ := x
  simp only [MB.bv] at hg hlk ⊢
  change (Instr.lookup 136 (.map (some mb)) (.int .u32 uid) true).run Tryz.prog w = _ at hlk
  have hgl := hg.lt
  have hn1 : New w (w.alloc (.cells #[.int .u32 0, .int .u8 0, .slice none 0 0] 238)) := (New.refl w).alloc _
  have g1 := hn1.blk hg
  have c0 : w.cell? ⟨g, 0, none⟩ = some (.int .u32 uid) := hg.cell 0
  have H1 := Lib.hid (h.fr hn1 id)
  have HB1 := Lib.hid (HB.out.new hn1)
  have hgm : g ≠ mb := Ne.symm (h.ne_blk hg)
  have hmlt := h.lt
  clear hl hb hm h
  obtain ⟨wq, hwq⟩ : ∃ wq, wq = w.alloc (.cells #[.int .u32 0, .int .u8 0, .slice none 0 0] 238) := ⟨_, rfl⟩
  have hwqs : wq.heap.size = w.heap.size + 1 := by rw [hwq]; simp
  have q0 : wq.cell? ⟨g, 0, none⟩ = some (.int .u32 uid) := by rw [hwq]; exact g1.cell 0
  have q1 : wq.cell? ⟨g, 1, none⟩ = some (.int .u8 fl) := by rw [hwq]; exact g1.cell 1
  have q2 : wq.cell? ⟨g, 2, none⟩ = some (.slice A n c) := by rw [hwq]; exact g1.cell 2
  go_enter Tryz.func239, Tryz.ntmps239
  go_wp2_with fail
  rw [← hwq] at H1 HB1 hn1 ⊢
  clear hwq g1 c0 hlk
  go_region_held3 (fun w' => w'.cell? ⟨g, 0, none⟩ = some (.int .u32 uid) ∧ w'.cell? ⟨g, 1, none⟩ = some (.int .u8 fl) ∧ w'.cell? ⟨g, 2, none⟩ = some (.slice A n c)) (first | go_keep | (refine ⟨?_, ?_, ?_⟩ <;> assumption))
    ((first
      | (go_at_call 240
         refine (mclone_any ⟨⟨uid, fl, body⟩, A, n, c⟩ _ (HB1.out.new ?nw) hbl).mono ?_
         case nw => repeat' first | exact New.refl _ | apply Fr.drewN | apply Fr.drew
         rintro e w3 ⟨y, rfl, hy, hoy, hn3⟩
         have hnq : New wq w3 := Fr.trans (by repeat' first | exact New.refl _ | apply Fr.drewN | apply Fr.drew) hn3
         have d0 : w3.cell? ⟨g, 0, none⟩ = some (.int .u32 uid) := Fr.cell hnq q0 id
         have d1 : w3.cell? ⟨g, 1, none⟩ = some (.int .u8 fl) := Fr.cell hnq q1 id
         have d2 : w3.cell? ⟨g, 2, none⟩ = some (.slice A n c) := Fr.cell hnq q2 id
         obtain ⟨w4, hr4, hm4, ho4⟩ := (H1.out.fr hnq id).run_put (t := 136) (e := 238) Tryz.underlying136 hln hk y.val
         change (Instr.mapUpdate 136 (.map (some mb)) (.int .u32 uid) y.val).run Tryz.prog w3 = _ at hr4
         have f0 : w4.cell? ⟨g, 0, none⟩ = some (.int .u32 uid) := Fr.cell ho4 d0 hgm
         have f1 : w4.cell? ⟨g, 1, none⟩ = some (.int .u8 fl) := Fr.cell ho4 d1 hgm
         have f2 : w4.cell? ⟨g, 2, none⟩ = some (.slice A n c) := Fr.cell ho4 d2 hgm)
      | fail))
  go_wp2
  first | go_end0 | (simp only [Exit.inBlock, Exit.then]; refine bodyPost_ret (results_none rfl _ _ _) rfl ?_) | refine bodyPost_ret (results_none rfl _ _ _) rfl ?_
  have hlo := hn1.size
  refine ⟨rfl, y, hy, hm4, (hoy.fr ho4 fun b hb hs => ?_).mono (by simpa using hlo), Fr.trans (New.to (hn1.trans hnq)) ho4⟩
  have h1 := (hoy.block hb).1
  have h2 : wq.drew.heap.size = wq.heap.size := rfl
  subst hs
  omega

/-- The message that no identifier has. -/
def mb0 : MB := ⟨msg0, none, 0, 0⟩

set_option maxRecDepth 100000 in
set_option maxHeartbeats 1600000 in
/-- Get's. -/
theorem get1_any {w : World} {mb kb g ob : Nat} {l : List (Int × Value)} {k : Int} {cs : Array Value} {b0 : Value} {o : Option MB} (h : HasMap uKeys w mb l) (hk : uKeys.ok k) (hkb : Blk w kb 28 #[.int .u32 k]) (hg : Blk w g 238 cs) (hcs : cs.size = 3)
    (ho : Blk w ob 4 #[b0]) (hl : get l k = o.map MB.val) :
    Calls Tryz.prog 246 #[.map (some mb), .pointer (some ⟨kb, 0, none⟩), .pointer (some ⟨g, 0, none⟩), .pointer (some ⟨ob, 0, none⟩)] w fun e w' => e = .returned (.tuple #[]) ∧
      (Blk w' g 238 #[.int .u32 (o.getD mb0).m.uid, .int .u8 (o.getD mb0).m.fl, (o.getD mb0).bv] ∧ Blk w' ob 4 #[.bool o.isSome] ∧ Fr (fun k => k = g ∨ k = ob) w w') := by
  have hlk := h.run_look_ok (t := 136) (e := 238) Tryz.underlying136 (zeroMsg w) hk
  have hv : (get l k).getD (.agg #[.int .u32 0, .int .u8 0, .slice none 0 0]) = (o.getD mb0).val := by rw [hl]; cases o <;> rfl
  have hs : (get l k).isSome = o.isSome := by rw [hl]; cases o <;> rfl
  rw [hv, hs] at hlk
  generalize o.getD mb0 = x at *
  generalize o.isSome = q at *
  clear hv hs hl
  obtain ⟨⟨uid, fl, body⟩, A, n, c⟩ := x
  simp only [MB.bv, MB.val] at hlk ⊢
  change (Instr.lookup 136 (.map (some mb)) (.int .u32 k) true).run Tryz.prog w = _ at hlk
  have ck : w.cell? ⟨kb, 0, none⟩ = some (.int .u32 k) := hkb.cell 0
  obtain ⟨l0⟩ := cs
  match l0, hcs with
  | [x0, x1, x2], _ =>
  have g0 : w.cell? ⟨g, 0, none⟩ = some x0 := hg.cell 0
  have g1 : w.cell? ⟨g, 1, none⟩ = some x1 := hg.cell 1
  have g2 : w.cell? ⟨g, 2, none⟩ = some x2 := hg.cell 2
  have z0 := hg.frozen 0
  have z1 := hg.frozen 1
  have z2 := hg.frozen 2
  have o0 : w.cell? ⟨ob, 0, none⟩ = some b0 := ho.cell 0
  have y0 := ho.frozen 0
  have hne : ob ≠ g := ho.ne_ hg (by decide)
  have h1 := ((hg.set_ 0 (.int .u32 uid)).set_ 1 (.int .u8 fl)).set_ 2 (.slice A n c)
  have h2 := ((ho.far (p := ⟨g, 0, none⟩) hne (.int .u32 uid)).far (p := ⟨g, 1, none⟩) hne (.int .u8 fl)).far (p := ⟨g, 2, none⟩) hne (.slice A n c)
  have p0 := h2.cell 0
  have p1 := h2.frozen 0
  go_enter Tryz.func246, Tryz.ntmps246
  go_wp2
  first | go_end0 | (simp only [Exit.inBlock, Exit.then]; refine bodyPost_ret (results_none rfl _ _ _) rfl ?_) | refine bodyPost_ret (results_none rfl _ _ _) rfl ?_
  exact ⟨rfl, h1.far (by simp; exact Ne.symm hne) _, h2.set_ 0 _, ((((Fr.refl _ _).setCell (fun _ => .inl rfl) _).setCell (fun _ => .inl rfl) _).setCell (fun _ => .inl rfl) _).setCell (fun _ => .inr rfl) _⟩

set_option maxRecDepth 100000 in
set_option maxHeartbeats 1600000 in
/-- Remove's. -/
theorem remove1_any {w : World} {mb kb g ob : Nat} {l : List (Int × Value)} {k : Int} {cs : Array Value} {b0 : Value} {o : Option MB} (h : HasMap uKeys w mb l) (hk : uKeys.ok k) (hkb : Blk w kb 28 #[.int .u32 k]) (hg : Blk w g 238 cs) (hcs : cs.size = 3)
    (ho : Blk w ob 4 #[b0]) (hl : get l k = o.map MB.val) :
    Calls Tryz.prog 245 #[.map (some mb), .pointer (some ⟨kb, 0, none⟩), .pointer (some ⟨g, 0, none⟩), .pointer (some ⟨ob, 0, none⟩)] w fun e w' => e = .returned (.tuple #[]) ∧
      (Blk w' g 238 #[.int .u32 (o.getD mb0).m.uid, .int .u8 (o.getD mb0).m.fl, (o.getD mb0).bv] ∧ Blk w' ob 4 #[.bool o.isSome] ∧ HasMap uKeys w' mb (del l k) ∧ Fr (fun k => k = mb ∨ k = g ∨ k = ob) w w') := by
  have hlk := h.run_look_ok (t := 136) (e := 238) Tryz.underlying136 (zeroMsg w) hk
  have hv : (get l k).getD (.agg #[.int .u32 0, .int .u8 0, .slice none 0 0]) = (o.getD mb0).val := by rw [hl]; cases o <;> rfl
  have hs : (get l k).isSome = o.isSome := by rw [hl]; cases o <;> rfl
  rw [hv, hs] at hlk
  generalize o.getD mb0 = x at *
  generalize o.isSome = q at *
  clear hv hs hl
  obtain ⟨⟨uid, fl, body⟩, A, n, c⟩ := x
  simp only [MB.bv, MB.val] at hlk ⊢
  change (Instr.lookup 136 (.map (some mb)) (.int .u32 k) true).run Tryz.prog w = _ at hlk
  have ck : w.cell? ⟨kb, 0, none⟩ = some (.int .u32 k) := hkb.cell 0
  obtain ⟨l0⟩ := cs
  match l0, hcs with
  | [x0, x1, x2], _ =>
  have g0 : w.cell? ⟨g, 0, none⟩ = some x0 := hg.cell 0
  have g1 : w.cell? ⟨g, 1, none⟩ = some x1 := hg.cell 1
  have g2 : w.cell? ⟨g, 2, none⟩ = some x2 := hg.cell 2
  have z0 := hg.frozen 0
  have z1 := hg.frozen 1
  have z2 := hg.frozen 2
  have o0 : w.cell? ⟨ob, 0, none⟩ = some b0 := ho.cell 0
  have y0 := ho.frozen 0
  have hne : ob ≠ g := ho.ne_ hg (by decide)
  have hkg : kb ≠ g := hkb.ne_ hg (by decide)
  have hko : kb ≠ ob := hkb.ne_ ho (by decide)
  have hmg := h.ne_blk hg
  have hmo := h.ne_blk ho
  have h1 := (((hg.set_ 0 (.int .u32 uid)).set_ 1 (.int .u8 fl)).set_ 2 (.slice A n c)).far (p := ⟨ob, 0, none⟩) (Ne.symm hne) (.bool q)
  have h2 := ((ho.far (p := ⟨g, 0, none⟩) hne (.int .u32 uid)).far (p := ⟨g, 1, none⟩) hne (.int .u8 fl)).far (p := ⟨g, 2, none⟩) hne (.slice A n c)
  have p0 := h2.cell 0
  have p1 := h2.frozen 0
  have h3 := h2.set_ 0 (.bool q)
  have hm4 := (((h.setCell (a := ⟨g, 0, none⟩) hmg (.int .u32 uid)).setCell (a := ⟨g, 1, none⟩) hmg (.int .u8 fl)).setCell (a := ⟨g, 2, none⟩) hmg (.slice A n c)).setCell (a := ⟨ob, 0, none⟩) hmo (.bool q)
  have hf4 : Fr (fun k => k = mb ∨ k = g ∨ k = ob) w ((((w.setCell ⟨g, 0, none⟩ (.int .u32 uid)).setCell ⟨g, 1, none⟩ (.int .u8 fl)).setCell ⟨g, 2, none⟩ (.slice A n c)).setCell ⟨ob, 0, none⟩ (.bool q)) :=
    ((((Fr.refl _ _).setCell (fun _ => .inr (.inl rfl)) _).setCell (fun _ => .inr (.inl rfl)) _).setCell (fun _ => .inr (.inl rfl)) _).setCell (fun _ => .inr (.inr rfl)) _
  have H1 := Lib.hid h1
  have H3 := Lib.hid h3
  have HM4 := Lib.hid hm4
  have HF4 := Lib.hid hf4
  clear h1 h2 h3 hm4 hf4
  go_enter Tryz.func245, Tryz.ntmps245
  go_wp2_with (first
    | (at_delete; refine wpList_del (E := uKeys) rfl _ _ 136 238 rfl Tryz.underlying136 HM4.out k hk rfl rfl ?_; intro w6 hm6 ho6)
    | fail)
  first | go_end0 | (simp only [Exit.inBlock, Exit.then]; refine bodyPost_ret (results_none rfl _ _ _) rfl ?_) | refine bodyPost_ret (results_none rfl _ _ _) rfl ?_
  exact ⟨rfl, ho6.blk H1.out (Ne.symm hmg), ho6.blk H3.out (Ne.symm hmo), hm6, HF4.out.trans (fr_or ho6 fun _ h => .inl h)⟩

set_option maxRecDepth 100000 in
set_option maxHeartbeats 3200000 in
/-- Flags': no such message, or no such change: a code is laid. -/
theorem flags1_no {w : World} {mb kb eb xb fb ob : Nat} {l : List (Int × Value)} {k mode f : Int} {o : Option MB} (h : HasMap uKeys w mb l) (hk : uKeys.ok k) (hkb : Blk w kb 28 #[.int .u32 k]) (he : Blk w eb 198 #[.int .i64 0])
    (hx : Blk w xb 3 #[.int .i64 mode]) (hfb : Blk w fb 45 #[.int .u8 f]) (hl : get l k = o.map MB.val) (hf : 0 ≤ f ∧ f ≤ 255) (hm : (Lit.int .i64 mode).wf = true) (hw : ∀ x, o = some x → 0 ≤ x.m.fl ∧ x.m.fl ≤ 255)
    (hno : ∀ x, o = some x → chg x.m.fl mode f = none) :
    Calls Tryz.prog 247 #[.map (some mb), .pointer (some ⟨kb, 0, none⟩), .pointer (some ⟨eb, 0, none⟩), .pointer (some ⟨xb, 0, none⟩), .pointer (some ⟨fb, 0, none⟩), .pointer (some ⟨ob, 0, none⟩)] w fun e w' => e = .returned (.tuple #[]) ∧
      (Blk w' eb 198 #[.int .i64 (if o.isSome then 2 else 7)] ∧ One eb w w') := by
  have hlk := h.run_look_ok (t := 136) (e := 238) Tryz.underlying136 (zeroMsg w) hk
  have hnt : ∀ (x : Bool) (w : World), (Op.unary .not (.bool x)).run Tryz.prog w = .ok (.bool (!x)) w := fun _ _ => rfl
  change (Instr.lookup 136 (.map (some mb)) (.int .u32 k) true).run Tryz.prog w = _ at hlk
  have ck : w.cell? ⟨kb, 0, none⟩ = some (.int .u32 k) := hkb.cell 0
  have hel := he.lt
  have hxl := hx.lt
  have hfl := hfb.lt
  cases o with
  | none =>
    rw [show get l k = none from hl] at hlk
    simp only [Option.getD_none, Option.isSome_none] at hlk
    have e1 := fun cs => (Blk.alloc he (.cells cs 238))
    have ec := fun cs => (e1 cs).cell 0
    have ef := fun cs => (e1 cs).frozen 0
    clear hno hw hl
    go_enter Tryz.func247, Tryz.ntmps247
    go_wp2
    first | go_end0 | (simp only [Exit.inBlock, Exit.then]; refine bodyPost_ret (results_none rfl _ _ _) rfl ?_) | refine bodyPost_ret (results_none rfl _ _ _) rfl ?_
    exact ⟨rfl, (he.set_ 0 _).alloc _, ((One.refl _ _).set 0 _).alloc _⟩
  | some x =>
    rw [show get l k = some x.val from hl] at hlk
    simp only [Option.getD_some, Option.isSome_some] at hlk
    have hc0 := hno x rfl
    have hw0 := hw x rfl
    obtain ⟨⟨uid, fl, body⟩, A, n, c⟩ := x
    simp only [MB.val] at hlk hc0 hw0
    have HC := Lib.hid (fun w => change_any fl mode f hw0 hf hm w)
    rw [hc0] at HC
    simp only [Option.getD_none, Option.isSome_none] at HC
    have cx : w.cell? ⟨xb, 0, none⟩ = some (.int .i64 mode) := hx.cell 0
    have cf : w.cell? ⟨fb, 0, none⟩ = some (.int .u8 f) := hfb.cell 0
    have hn1 : New w (w.alloc (.cells #[.int .u32 uid, .int .u8 fl, .slice A n c] 238)) := (New.refl w).alloc _
    have b1 := Blk.new w 238 #[.int .u32 uid, .int .u8 fl, .slice A n c]
    have e1 := hn1.blk he
    clear hno hw hl hc0
    go_enter Tryz.func247, Tryz.ntmps247
    go_wp2_with fail
    refine (HC.out _).mono ?_
    rintro e w3 ⟨rfl, hn3⟩
    have b3 := hn3.blk b1
    have c3 := b3.cell 1
    have f3 := b3.frozen 1
    have e3 := hn3.blk e1
    have e4 := e3.far (p := ⟨w.heap.size, 1, none⟩) (by simp; omega) (.int .u8 0)
    have ce := e4.cell 0
    have fe := e4.frozen 0
    have HF := Lib.hid (hn1.trans hn3)
    go_wp2
    first | go_end0 | (simp only [Exit.inBlock, Exit.then]; refine bodyPost_ret (results_none rfl _ _ _) rfl ?_) | refine bodyPost_ret (results_none rfl _ _ _) rfl ?_
    exact ⟨rfl, e4.set_ 0 _, One.set (Fr.setCell (New.to HF.out : One eb w w3) (p := ⟨w.heap.size, 1, none⟩) (fun h => absurd h (by simp)) _) 0 _⟩

set_option maxRecDepth 100000 in
set_option maxHeartbeats 3200000 in
/-- Flags': the message's flags change. -/
theorem flags1_yes {w : World} {mb kb eb xb fb ob : Nat} {l : List (Int × Value)} {k mode f v0 v : Int} {x : MB} (h : HasMap uKeys w mb l) (hln : l.length < maxLen) (hk : uKeys.ok k) (hkb : Blk w kb 28 #[.int .u32 k])
    (hx : Blk w xb 3 #[.int .i64 mode]) (hfb : Blk w fb 45 #[.int .u8 f]) (ho : Blk w ob 45 #[.int .u8 v0]) (hl : get l k = some x.val) (hf : 0 ≤ f ∧ f ≤ 255) (hm : (Lit.int .i64 mode).wf = true) (hw : 0 ≤ x.m.fl ∧ x.m.fl ≤ 255)
    (hc : chg x.m.fl mode f = some v) :
    Calls Tryz.prog 247 #[.map (some mb), .pointer (some ⟨kb, 0, none⟩), .pointer (some ⟨eb, 0, none⟩), .pointer (some ⟨xb, 0, none⟩), .pointer (some ⟨fb, 0, none⟩), .pointer (some ⟨ob, 0, none⟩)] w fun e w' => e = .returned (.tuple #[]) ∧
      (Blk w' ob 45 #[.int .u8 v] ∧ HasMap uKeys w' mb (put l k (x.setf v).val) ∧ Fr (fun k => k = mb ∨ k = ob) w w') := by
  have hlk := h.run_look_ok (t := 136) (e := 238) Tryz.underlying136 (zeroMsg w) hk
  have hnt : ∀ (x : Bool) (w : World), (Op.unary .not (.bool x)).run Tryz.prog w = .ok (.bool (!x)) w := fun _ _ => rfl
  change (Instr.lookup 136 (.map (some mb)) (.int .u32 k) true).run Tryz.prog w = _ at hlk
  rw [hl] at hlk
  simp only [Option.getD_some, Option.isSome_some] at hlk
  have ck : w.cell? ⟨kb, 0, none⟩ = some (.int .u32 k) := hkb.cell 0
  obtain ⟨⟨uid, fl, body⟩, A, n, c⟩ := x
  simp only [MB.val, MB.setf] at hlk hc hw ⊢
  have HC := Lib.hid (fun w => change_any fl mode f hw hf hm w)
  rw [hc] at HC
  simp only [Option.getD_some, Option.isSome_some] at HC
  have cx : w.cell? ⟨xb, 0, none⟩ = some (.int .i64 mode) := hx.cell 0
  have cf : w.cell? ⟨fb, 0, none⟩ = some (.int .u8 f) := hfb.cell 0
  have hkl := hkb.lt
  have hxl := hx.lt
  have hfl := hfb.lt
  have hol := ho.lt
  have hml := h.lt
  have hmo := h.ne_blk ho
  have hmk := h.ne_blk hkb
  have hn1 : New w (w.alloc (.cells #[.int .u32 uid, .int .u8 fl, .slice A n c] 238)) := (New.refl w).alloc _
  have b1 := Blk.new w 238 #[.int .u32 uid, .int .u8 fl, .slice A n c]
  have k1 := hn1.blk hkb
  have o1 := hn1.blk ho
  have H1 := Lib.hid (h.fr hn1 id)
  clear hl hc
  go_enter Tryz.func247, Tryz.ntmps247
  go_wp2_with fail
  refine (HC.out _).mono ?_
  rintro e w3 ⟨rfl, hn3⟩
  have b3 := hn3.blk b1
  have c3 := b3.cell 1
  have f3 := b3.frozen 1
  have k3 := (hn3.blk k1).far (p := ⟨w.heap.size, 1, none⟩) (by simp; omega) (.int .u8 v)
  have o3 := (hn3.blk o1).far (p := ⟨w.heap.size, 1, none⟩) (by simp; omega) (.int .u8 v)
  have b4 := b3.set_ 1 (.int .u8 v)
  have HM := Lib.hid ((H1.out.fr hn3 id).setCell (a := ⟨w.heap.size, 1, none⟩) (by simp; omega) (.int .u8 v))
  have HF := Lib.hid (Fr.setCell (p := ⟨w.heap.size, 1, none⟩) (New.to (hn1.trans hn3) : Fr (fun k => k = mb ∨ k = ob) w w3) (fun h => absurd h (by simp)) (.int .u8 v))
  go_wp2_with fail
  obtain ⟨wq, hwq⟩ : ∃ wq, wq = w3.setCell ⟨w.heap.size, 1, none⟩ (.int .u8 v) := ⟨_, rfl⟩
  rw [← hwq] at k3 o3 b4 HM HF ⊢
  have hqs : w.heap.size < wq.heap.size := b4.lt
  clear hwq hn1 hn3 b1 b3 k1 o1 H1 c3 f3
  obtain ⟨w5, hr5, hm5, ho5⟩ := (HM.out.fr (w' := wq.drew) ((New.refl wq).drew) id).run_put (t := 136) (e := 238) Tryz.underlying136 hln hk (.agg #[.int .u32 uid, .int .u8 v, .slice A n c])
  change (Instr.mapUpdate 136 (.map (some mb)) (.int .u32 k) (.agg #[.int .u32 uid, .int .u8 v, .slice A n c])).run Tryz.prog wq.drew = _ at hr5
  have p0 : wq.drew.cell? ⟨w.heap.size, 0, none⟩ = some (.int .u32 uid) := b4.cell 0
  have p1 : wq.drew.cell? ⟨w.heap.size, 1, none⟩ = some (.int .u8 v) := b4.cell 1
  have p2 : wq.drew.cell? ⟨w.heap.size, 2, none⟩ = some (.slice A n c) := b4.cell 2
  have pk : wq.drew.cell? ⟨kb, 0, none⟩ = some (.int .u32 k) := k3.cell 0
  have q1 : w5.cell? ⟨w.heap.size, 1, none⟩ = some (.int .u8 v) := Fr.cell ho5 p1 (by simp; omega)
  have q0 : w5.cell? ⟨w.heap.size, 0, none⟩ = some (.int .u32 uid) := Fr.cell ho5 p0 (by simp; omega)
  have q2 : w5.cell? ⟨w.heap.size, 2, none⟩ = some (.slice A n c) := Fr.cell ho5 p2 (by simp; omega)
  have qk : w5.cell? ⟨kb, 0, none⟩ = some (.int .u32 k) := Fr.cell ho5 pk (by simp; omega)
  have o5 := ho5.blk (o3.drew) (by simp; omega)
  have r0 := o5.cell 0
  have r1 := o5.frozen 0
  go_region
  go_wp2
  first | go_end0 | (simp only [Exit.inBlock, Exit.then]; refine bodyPost_ret (results_none rfl _ _ _) rfl ?_) | refine bodyPost_ret (results_none rfl _ _ _) rfl ?_
  exact ⟨rfl, o5.set_ 0 _, hm5.setCell (by simp; omega) _, ((HF.out.drew).trans (fr_or ho5 fun _ h => .inl h)).setCell (fun _ => .inr rfl) _⟩

end Go.Proofs.YtliimglbbiebiaaGreatDoor
end

section
/- A table of messages in stripes: Put. -/
namespace Go.Proofs.YtliimglbbiebiaaGreatDoor
open Go.RowKit Go.Maps

section
variable {base : Nat} {w w' : World} {T : Tb} {X X' : List MB}

theorem TBX.part_lt (h : TBX base w T X) {i : Nat} (hi : i < T.n) : T.q i < w.heap.size ∧ T.mb i < w.heap.size := ⟨(h.part i hi).lt, (h.map i hi).lt⟩

/-- One stripe has turned. -/
theorem TBX.turn {S : Nat → Prop} (h : TBX base w T X) {i : Nat} (hi : i < T.n) (hf : Fr S w w') (hS : ∀ k, S k → k = T.q i ∨ k = T.mb i ∨ ¬ T.foot k)
    (hp : Blk w' (T.q i) 143 #[.int .i32 0, .int .u32 0, .map (some (T.mb i))]) (hm : HasMap uKeys w' (T.mb i) (ent T.n i X')) (he : ∀ j, j ≠ i → j < T.n → ent T.n j X' = ent T.n j X)
    (hb : ∀ x ∈ X', Own (intE .u8) 5 base w' x.bv x.m.body) (nd : (X'.map fun x => x.m.uid).Nodup) (ok : ∀ x ∈ X', x.m.ok ∧ x.m.body.length ≤ 65536) : TBX base w' T X' := by
  obtain ⟨cs, hpt, hpi⟩ := h.pt
  have htq : T.tb ≠ T.q i := h.hd.ne_ (h.part i hi) (by decide)
  have htm : T.tb ≠ T.mb i := Ne.symm ((h.map i hi).ne_blk h.hd)
  have hpq : T.pb ≠ T.q i := hpt.ne_ (h.part i hi) (by decide)
  have hpm : T.pb ≠ T.mb i := Ne.symm ((h.map i hi).ne_blk hpt)
  have hno : ∀ k, T.foot k → k ≠ T.q i → k ≠ T.mb i → ¬ S k := fun k hk h1 h2 hs => by
    rcases hS k hs with h3 | h3 | h3
    · exact h1 h3
    · exact h2 h3
    · exact h3 hk
  refine ⟨hf.blk h.hd (hno _ h.rtb htq htm), h.n0, h.n1, h.nc, ⟨cs, hf.blk hpt (hno _ h.rpb hpq hpm), hpi⟩, fun j hj => ?_, fun j hj => ?_, hb, nd, ok, h.qinj, h.minj, h.rtb, h.rpb, h.rq, h.rm, Nat.le_trans h.top hf.size⟩
  · by_cases hji : j = i
    · subst hji; exact hp
    · exact hf.blk (h.part j hj) (hno _ (h.rq j hj) (fun e => hji (h.qinj _ _ hj hi e)) (Ne.symm ((h.map i hi).ne_blk (h.part j hj))))
  · by_cases hji : j = i
    · subst hji; exact hm
    · rw [he j hji hj]
      exact (h.map j hj).fr hf (hno _ (h.rm j hj) ((h.map j hj).ne_blk (h.part i hi)) (fun e => hji (h.minj _ _ hj hi e)))

theorem TBX.after (h : TBX base w T X) {i : Nat} (hi : i < T.n) (hf : Fr (fun k => k = T.q i ∨ k = T.mb i) w w')
    (hp : Blk w' (T.q i) 143 #[.int .i32 0, .int .u32 0, .map (some (T.mb i))]) (hm : HasMap uKeys w' (T.mb i) (ent T.n i X')) (he : ∀ j, j ≠ i → j < T.n → ent T.n j X' = ent T.n j X)
    (hb : ∀ x ∈ X', Own (intE .u8) 5 base w x.bv x.m.body ∨ Own (intE .u8) 5 base w' x.bv x.m.body) (nd : (X'.map fun x => x.m.uid).Nodup) (ok : ∀ x ∈ X', x.m.ok ∧ x.m.body.length ≤ 65536) : TBX base w' T X' ∧ Fr T.foot w w' := by
  refine ⟨h.turn hi hf (fun k hk => by rcases hk with hk | hk; exact .inl hk; exact .inr (.inl hk)) hp hm he (fun x hx => ?_) nd ok, fr_or hf fun k hk => by rcases hk with rfl | rfl; exact h.rq i hi; exact h.rm i hi⟩
  rcases hb x hx with h1 | h1
  · refine h1.fr hf fun b hb hs => ?_
    obtain ⟨cs, h2⟩ := h1.heap hb
    rcases hs with rfl | rfl
    · exact h2.ne_ (h.part i hi) (by decide) rfl
    · exact (h.map i hi).ne_blk h2 rfl
  · exact h1

/-- Where an identifier's stripe is. -/
theorem TBX.stripe (h : TBX base w T X) (k : Int) : ∃ i : Nat, k % (T.n : Int) = i ∧ i < T.n := by
  have h1 := h.n0
  have hm0 : 0 ≤ k % (T.n : Int) := Int.emod_nonneg _ (by omega)
  have hm1 : k % (T.n : Int) < T.n := Int.emod_lt_of_pos _ (by omega)
  exact ⟨(k % (T.n : Int)).toNat, by omega, by omega⟩
theorem TBX.ptr (h : TBX base w T X) {i : Nat} (hi : i < T.n) : w.cell? ⟨T.pb, i, none⟩ = some (.pointer (some ⟨T.q i, 0, none⟩)) := by
  obtain ⟨cs, hpt, hpi⟩ := h.pt
  rw [hpt.cell, hpi i hi]
theorem TBX.len (_ : TBX base w T X) (i : Nat) : (ent T.n i X).length ≤ X.length := by
  unfold ent
  rw [List.length_map]
  exact List.length_filter_le _ _
end

/-- A function is called with a stripe's messages, under its lock. -/
theorem tdo_any {base : Nat} {w wq : World} {T : Tb} {X : List MB} (h : TBX base w T X) (hn1 : New w wq) {i : Nat} (hi : i < T.n) (fn : Nat) (cap : Array Value) (Q : List MB → World → Prop)
    (hE : ∀ args w, (callFunc fn args).run Tryz.prog w = .ok (.enter fn args) w)
    (hf : Calls Tryz.prog fn (#[.map (some (T.mb i))] ++ cap) (wq.setCell ⟨T.q i, 0, none⟩ (.int .i32 1)) fun e w2 => e = .returned (.tuple #[]) ∧ ∃ X', HasMap uKeys w2 (T.mb i) (ent T.n i X') ∧
      Fr (fun k => k = T.mb i ∨ w.heap.size ≤ k) (wq.setCell ⟨T.q i, 0, none⟩ (.int .i32 1)) w2 ∧ (∀ x ∈ X', Own (intE .u8) 5 base w x.bv x.m.body ∨ Own (intE .u8) 5 base w2 x.bv x.m.body) ∧
      (∀ j, j ≠ i → j < T.n → ent T.n j X' = ent T.n j X) ∧ (X'.map fun x => x.m.uid).Nodup ∧ (∀ x ∈ X', x.m.ok ∧ x.m.body.length ≤ 65536) ∧ Q X' w2) :
    Calls Tryz.prog 191 #[.pointer (some ⟨T.q i, 0, none⟩), .func (.func fn) #[] cap] wq fun e w' => e = .returned (.tuple #[]) ∧ ∃ X' w2, w' = w2.setCell ⟨T.q i, 0, none⟩ (.int .i32 0) ∧ Q X' w2 ∧ TBX base w' T X' ∧ Fr T.foot w w' := by
  have hT := h.new hn1
  have hp := hT.part i hi
  have hql := (h.part_lt hi).1
  have hmq : T.mb i ≠ T.q i := (hT.map i hi).ne_blk hp
  refine (do_any (T.q i) (T.mb i) fn cap (fun w2 => Fr (fun k => k = T.mb i ∨ w.heap.size ≤ k) (wq.setCell ⟨T.q i, 0, none⟩ (.int .i32 1)) w2 ∧ ∃ X', HasMap uKeys w2 (T.mb i) (ent T.n i X') ∧
      (∀ x ∈ X', Own (intE .u8) 5 base w x.bv x.m.body ∨ Own (intE .u8) 5 base w2 x.bv x.m.body) ∧
      (∀ j, j ≠ i → j < T.n → ent T.n j X' = ent T.n j X) ∧ (X'.map fun x => x.m.uid).Nodup ∧ (∀ x ∈ X', x.m.ok ∧ x.m.body.length ≤ 65536) ∧ Q X' w2) wq hp hE (hf.mono ?_) ?_).mono ?_
  · rintro e w2 ⟨rfl, X', h1, h2, h3⟩
    exact ⟨rfl, h2, X', h1, h3⟩
  · rintro w2 ⟨h2, _⟩
    exact h2.blk (hp.set_ 0 _) (fun hs => by rcases hs with hs | hs; exact hmq hs.symm; omega)
  · rintro e w' ⟨rfl, w2, ⟨h2, X', h1, h3, h4, h5, h6, h7⟩, rfl⟩
    have hp2 : Blk w2 (T.q i) 143 #[.int .i32 1, .int .u32 0, .map (some (T.mb i))] := h2.blk (hp.set_ 0 _) (fun hs => by rcases hs with hs | hs; exact hmq hs.symm; omega)
    have hF : Fr (fun k => k = T.q i ∨ k = T.mb i ∨ w.heap.size ≤ k) wq (w2.setCell ⟨T.q i, 0, none⟩ (.int .i32 0)) :=
      Fr.setCell (Fr.trans (((Fr.refl _ _)).setCell (fun _ => .inl rfl) _) (fr_or h2 fun _ h => .inr h)) (fun _ => .inl rfl) _
    have hFw : Fr (fun k => k = T.q i ∨ k = T.mb i) w (w2.setCell ⟨T.q i, 0, none⟩ (.int .i32 0)) := Fr.trans' (New.to hn1) hF fun k hk hs => by
      rcases hs with hs | hs | hs
      · exact .inl hs
      · exact .inr hs
      · omega
    have hd := h.after hi hFw (hp2.set_ 0 _) (h1.setCell (a := ⟨T.q i, 0, none⟩) hmq _) h4 (fun x hx => by
      rcases h3 x hx with h8 | h8
      · exact .inl h8
      · refine .inr (h8.fr (S := fun k => k = T.q i) ((Fr.refl (fun k => k = T.q i) _).setCell (p := ⟨T.q i, 0, none⟩) (fun _ => rfl) _) fun b hb hs => ?_)
        subst hs
        obtain ⟨cs, h9⟩ := h8.heap hb
        exact hp2.ne_ h9 (by decide) rfl) h5 h6
    exact ⟨rfl, X', w2, rfl, h7, hd.1, hd.2⟩

theorem MB.len_eq {w : World} {x : MB} (h : Rd (intE .u8) w x.bv x.m.body) : x.n = x.m.body.length := by
  obtain ⟨A', c', he, _⟩ := h
  injection he
theorem putC_ok {M : List Msg} {m : Msg} (h0 : m.uid ≠ 0) (h1 : m.fl ≤ 31) (h2 : m.body.length ≤ 65536) : putC M m = if (findM M m.uid).isSome then 8 else 0 := by
  unfold putC
  rw [if_neg]
  rintro (h | h | h)
  · exact h0 h
  · omega
  · omega

set_option maxHeartbeats 800000 in
theorem tput_nil (x : MB) (w : World) : Calls Tryz.prog 188 #[.pointer none, x.val] w fun e w' => e = .returned (.int .i64 1) ∧ New w w' := by
  obtain ⟨⟨uid, fl, body⟩, A, n, c⟩ := x
  simp only [MB.val]
  go_enter Tryz.func188, Tryz.ntmps188
  go_wp2
  go_ret
  exact ⟨rfl, (New.refl w).alloc _⟩

set_option maxHeartbeats 1600000 in
theorem tput_range (b : Nat) (x : MB) (w : World) (hb : Rd (intE .u8) w x.bv x.m.body) (hc : x.m.uid = 0 ∨ 31 < x.m.fl ∨ 65536 < x.m.body.length) :
    Calls Tryz.prog 188 #[.pointer (some ⟨b, 0, none⟩), x.val] w fun e w' => e = .returned (.int .i64 2) ∧ New w w' := by
  obtain ⟨⟨uid, fl, body⟩, A, n, c⟩ := x
  have e2 : n = body.length := MB.len_eq hb
  subst e2
  simp only [MB.val] at hc ⊢
  by_cases h0 : uid = 0
  · have d0 : (uid == 0) = true := by simp [h0]
    clear hc h0
    go_enter Tryz.func188, Tryz.ntmps188
    go_wp2
    go_ret
    exact ⟨rfl, (New.refl w).alloc _⟩
  · have d0 : (uid == 0) = false := by simp [h0]
    by_cases h1 : 31 < fl
    · have d1 : decide (31 < fl) = true := decide_eq_true h1
      clear hc h0 h1
      go_enter Tryz.func188, Tryz.ntmps188
      go_wp2
      go_ret
      exact ⟨rfl, (New.refl w).alloc _⟩
    · have d1 : decide (31 < fl) = false := decide_eq_false h1
      have d2 : decide ((65536 : Int) < body.length) = true := decide_eq_true (by omega)
      clear hc h0 h1
      go_enter Tryz.func188, Tryz.ntmps188
      go_wp2
      go_ret
      exact ⟨rfl, (New.refl w).alloc _⟩

set_option maxRecDepth 100000 in
set_option maxHeartbeats 6400000 in
theorem tput_has {base : Nat} {w : World} {T : Tb} {X : List MB} (h : TBX base w T X) (x y : MB) (hx : x.m.wf) (hb : Rd (intE .u8) w x.bv x.m.body)
    (h0 : x.m.uid ≠ 0) (h1 : x.m.fl ≤ 31) (h2 : x.m.body.length ≤ 65536) (hy : findX X x.m.uid = some y) :
    Calls Tryz.prog 188 #[.pointer (some ⟨T.tb, 0, none⟩), x.val] w fun e w' => e = .returned (.int .i64 8) ∧ (TBX base w' T X ∧ Fr T.foot w w') := by
  obtain ⟨i, hi, hin⟩ := h.stripe x.m.uid
  have hget := get_ent T.n hi X
  rw [hy] at hget
  obtain ⟨⟨uid, fl, body⟩, A, n, c⟩ := x
  have e2 : n = body.length := MB.len_eq hb
  subst e2
  have HB := Lib.hid hb
  simp only [MB.val, Msg.wf] at hx h0 h1 h2 hget hi ⊢
  have d0 : (uid == 0) = false := by simp [h0]
  have d1 : decide (31 < fl) = false := decide_eq_false (by omega)
  have d2 : decide ((65536 : Int) < body.length) = false := decide_eq_false (by omega)
  have hmf : ∀ (fn : Fn) (first cap : Array Value) (w : World), (Instr.makeFunc fn first cap).run Tryz.prog w = .ok (.func fn first cap) w := fun _ _ _ _ => rfl
  have hE := enters _ _ _ Tryz.func239 (by kernel_rfl) rfl
  obtain ⟨wq, hwq⟩ : ∃ wq, wq = (w.alloc (.cells #[.int .u32 uid, .int .u8 fl, .slice A body.length c] 238)).alloc (.cells #[.int .i64 0] 198) := ⟨_, rfl⟩
  have hn1 : New w wq := by rw [hwq]; exact ((New.refl w).alloc _).alloc _
  have hqs : wq.heap.size = w.heap.size + 2 := by rw [hwq]; simp
  have bg : Blk wq w.heap.size 238 #[.int .u32 uid, .int .u8 fl, .slice A body.length c] := by rw [hwq]; exact (Blk.new _ _ _).alloc _
  have be : Blk wq (w.heap.size + 1) 198 #[.int .i64 0] := by rw [hwq]; exact Blk.new1 _ _ _ _
  have hT := h.new hn1
  have c0 : wq.cell? ⟨T.tb, 0, none⟩ = some (.slice (some ⟨T.pb, 0, none⟩) T.n T.c) := hT.hd.cell 0
  have cg : wq.cell? ⟨w.heap.size, 0, none⟩ = some (.int .u32 uid) := bg.cell 0
  have cp := hT.ptr hin
  have hiI : (0 : Int) ≤ (i : Int) := by omega
  have hnI : (i : Int) < (T.n : Int) := by omega
  have hql := hT.part_lt hin
  have hwl := h.part_lt hin
  have HWQ := Lib.hid hwq
  go_enter Tryz.func188, Tryz.ntmps188
  go_wp2_with fail
  rw [← HWQ.out]
  clear HWQ hwq
  have hmq : T.mb i ≠ T.q i := (hT.map i hin).ne_blk (hT.part i hin)
  have hgq : w.heap.size ≠ T.q i := bg.ne_ (hT.part i hin) (by decide)
  have heq : w.heap.size + 1 ≠ T.q i := be.ne_ (hT.part i hin) (by decide)
  have hok : uKeys.ok uid := okU hx.1.1 hx.1.2
  have HD : Hid (Calls Tryz.prog 191 #[.pointer (some ⟨T.q i, 0, none⟩), .func (.func 239) #[] #[.pointer (some ⟨w.heap.size, 0, none⟩), .pointer (some ⟨w.heap.size + 1, 0, none⟩)]] wq.drew fun e w' => e = .returned (.tuple #[]) ∧ (TBX base w' T X ∧ Fr T.foot w w') ∧
      Blk w' w.heap.size 238 #[.int .u32 uid, .int .u8 fl, .slice A body.length c] ∧ Blk w' (w.heap.size + 1) 198 #[.int .i64 8]) := by
    refine (tdo_any h (hn1.drew) hin 239 #[.pointer (some ⟨w.heap.size, 0, none⟩), .pointer (some ⟨w.heap.size + 1, 0, none⟩)] (fun X' w2 => X' = X ∧ Blk w2 w.heap.size 238 #[.int .u32 uid, .int .u8 fl, .slice A body.length c] ∧ Blk w2 (w.heap.size + 1) 198 #[.int .i64 8]) hE ?_).mono ?_
    · refine (put1_has (w := wq.drew.setCell ⟨T.q i, 0, none⟩ (.int .i32 1)) (x := ⟨⟨uid, fl, body⟩, A, body.length, c⟩) (y := y) ((hT.map i hin).drew.setCell (a := ⟨T.q i, 0, none⟩) hmq _) hok (bg.drew.far (p := ⟨T.q i, 0, none⟩) hgq _) (be.drew.far (p := ⟨T.q i, 0, none⟩) heq _) hget).mono ?_
      rintro e w2 ⟨rfl, h5, h6⟩
      exact ⟨rfl, X, ((hT.map i hin).drew.setCell (a := ⟨T.q i, 0, none⟩) hmq _).fr h6 (by omega), fr_or h6 fun _ h => .inr (by omega), fun x hx => .inl (h.body x hx), fun _ _ _ => rfl, h.nd, h.ok, rfl, h6.blk (bg.drew.far (p := ⟨T.q i, 0, none⟩) hgq _) (by omega), h5⟩
    · rintro e w' ⟨rfl, X', w2, rfl, ⟨rfl, h5, h6⟩, h7, h8⟩
      exact ⟨rfl, ⟨h7, h8⟩, h5.far (p := ⟨T.q i, 0, none⟩) hgq _, h6.far (p := ⟨T.q i, 0, none⟩) heq _⟩
  go_region_held3 (fun w' => w'.cell? ⟨T.tb, 0, none⟩ = some (.slice (some ⟨T.pb, 0, none⟩) T.n T.c) ∧ w'.cell? ⟨w.heap.size, 0, none⟩ = some (.int .u32 uid) ∧ w'.cell? ⟨T.pb, i, none⟩ = some (.pointer (some ⟨T.q i, 0, none⟩))) (first | go_keep | (refine ⟨?_, ?_, ?_⟩ <;> assumption))
    ((first
      | (go_at_call 238
         refine (tof_any (hT.new (by repeat' first | exact New.refl _ | apply Fr.drewN | apply Fr.drew)) uid (by omega) (by omega)).mono ?_
         rw [hi]
         rintro e w3 ⟨rfl, rfl⟩)
      | (go_at_call 191
         refine HD.out.mono ?_
         rintro e w4 ⟨rfl, hTn, h5, h6⟩
         have k0 : w4.cell? ⟨T.tb, 0, none⟩ = some (.slice (some ⟨T.pb, 0, none⟩) T.n T.c) := hTn.1.hd.cell 0
         have k1 : w4.cell? ⟨w.heap.size, 0, none⟩ = some (.int .u32 uid) := h5.cell 0
         have k2 : w4.cell? ⟨T.pb, i, none⟩ = some (.pointer (some ⟨T.q i, 0, none⟩)) := hTn.1.ptr hin
         have k3 : w4.cell? ⟨w.heap.size + 1, 0, none⟩ = some (.int .i64 8) := h6.cell 0)
      | fail))
  all_goals
    go_wp2
    go_ret
    exact ⟨rfl, hTn⟩

set_option maxRecDepth 100000 in
set_option maxHeartbeats 6400000 in
theorem tput_new {base : Nat} {w : World} {T : Tb} {X : List MB} (h : TBX base w T X) (hbs : base ≤ w.heap.size) (hX : X.length ≤ 100000) (x : MB) (hx : x.m.wf) (hb : Rd (intE .u8) w x.bv x.m.body)
    (h0 : x.m.uid ≠ 0) (h1 : x.m.fl ≤ 31) (h2 : x.m.body.length ≤ 65536) (hy : findX X x.m.uid = none) :
    Calls Tryz.prog 188 #[.pointer (some ⟨T.tb, 0, none⟩), x.val] w fun e w' => e = .returned (.int .i64 0) ∧ ∃ y : MB, y.m = x.m ∧ (TBX base w' T (X ++ [y]) ∧ Fr T.foot w w') := by
  obtain ⟨i, hi, hin⟩ := h.stripe x.m.uid
  have hget := get_ent T.n hi X
  rw [hy] at hget
  obtain ⟨⟨uid, fl, body⟩, A, n, c⟩ := x
  have e2 : n = body.length := MB.len_eq hb
  subst e2
  have HB := Lib.hid hb
  simp only [MB.val, Msg.wf] at hx h0 h1 h2 hget hi ⊢
  have d0 : (uid == 0) = false := by simp [h0]
  have d1 : decide (31 < fl) = false := decide_eq_false (by omega)
  have d2 : decide ((65536 : Int) < body.length) = false := decide_eq_false (by omega)
  have hmf : ∀ (fn : Fn) (first cap : Array Value) (w : World), (Instr.makeFunc fn first cap).run Tryz.prog w = .ok (.func fn first cap) w := fun _ _ _ _ => rfl
  have hE := enters _ _ _ Tryz.func239 (by kernel_rfl) rfl
  obtain ⟨wq, hwq⟩ : ∃ wq, wq = (w.alloc (.cells #[.int .u32 uid, .int .u8 fl, .slice A body.length c] 238)).alloc (.cells #[.int .i64 0] 198) := ⟨_, rfl⟩
  have hn1 : New w wq := by rw [hwq]; exact ((New.refl w).alloc _).alloc _
  have hqs : wq.heap.size = w.heap.size + 2 := by rw [hwq]; simp
  have bg : Blk wq w.heap.size 238 #[.int .u32 uid, .int .u8 fl, .slice A body.length c] := by rw [hwq]; exact (Blk.new _ _ _).alloc _
  have be : Blk wq (w.heap.size + 1) 198 #[.int .i64 0] := by rw [hwq]; exact Blk.new1 _ _ _ _
  have hT := h.new hn1
  have c0 : wq.cell? ⟨T.tb, 0, none⟩ = some (.slice (some ⟨T.pb, 0, none⟩) T.n T.c) := hT.hd.cell 0
  have cg : wq.cell? ⟨w.heap.size, 0, none⟩ = some (.int .u32 uid) := bg.cell 0
  have cp := hT.ptr hin
  have hiI : (0 : Int) ≤ (i : Int) := by omega
  have hnI : (i : Int) < (T.n : Int) := by omega
  have hql := hT.part_lt hin
  have hwl := h.part_lt hin
  have HWQ := Lib.hid hwq
  go_enter Tryz.func188, Tryz.ntmps188
  go_wp2_with fail
  rw [← HWQ.out]
  clear HWQ hwq
  have hmq : T.mb i ≠ T.q i := (hT.map i hin).ne_blk (hT.part i hin)
  have hgq : w.heap.size ≠ T.q i := bg.ne_ (hT.part i hin) (by decide)
  have heq : w.heap.size + 1 ≠ T.q i := be.ne_ (hT.part i hin) (by decide)
  have hok : uKeys.ok uid := okU hx.1.1 hx.1.2
  have hx0 := hx
  have hnd : ∀ y : MB, y.m = ⟨uid, fl, body⟩ → ((X ++ [y]).map fun x => x.m.uid).Nodup := fun y hym => by
    rw [List.map_append, List.nodup_append]
    refine ⟨h.nd, by simp, fun a ha b hb => ?_⟩
    obtain ⟨z, hz, rfl⟩ := List.mem_map.1 ha
    simp at hb
    rw [hb, hym]
    intro he
    have := List.find?_eq_none.1 hy z hz
    simp at this
    exact this he
  have hlen := h.len i
  have hga : get (ent T.n i X) uid = none := hget
  have HD : Hid (Calls Tryz.prog 191 #[.pointer (some ⟨T.q i, 0, none⟩), .func (.func 239) #[] #[.pointer (some ⟨w.heap.size, 0, none⟩), .pointer (some ⟨w.heap.size + 1, 0, none⟩)]] wq.drew fun e w' => e = .returned (.tuple #[]) ∧ (∃ y : MB, y.m = ⟨uid, fl, body⟩ ∧ TBX base w' T (X ++ [y]) ∧ Fr T.foot w w') ∧
      Blk w' w.heap.size 238 #[.int .u32 uid, .int .u8 fl, .slice A body.length c] ∧ Blk w' (w.heap.size + 1) 198 #[.int .i64 0]) := by
    refine (tdo_any h (hn1.drew) hin 239 #[.pointer (some ⟨w.heap.size, 0, none⟩), .pointer (some ⟨w.heap.size + 1, 0, none⟩)] (fun X' w2 => (∃ y : MB, y.m = ⟨uid, fl, body⟩ ∧ X' = X ++ [y]) ∧ Blk w2 w.heap.size 238 #[.int .u32 uid, .int .u8 fl, .slice A body.length c] ∧ Blk w2 (w.heap.size + 1) 198 #[.int .i64 0]) hE ?_).mono ?_
    · have hbq : Rd (intE .u8) (wq.drew.setCell ⟨T.q i, 0, none⟩ (.int .i32 1)) (.slice A body.length c) body := by
        have h9 : Rd (intE .u8) wq.drew (.slice A body.length c) body := HB.out.new hn1.drew
        obtain ⟨A', c', he, hc', hcell⟩ := h9
        cases he
        refine ⟨A, c, rfl, hc', fun hne => ?_⟩
        obtain ⟨b, off, rfl, hc⟩ := hcell hne
        refine ⟨b, off, rfl, fun i' x hx j u hu => ?_⟩
        have h10 := hc i' x hx j u hu
        rw [World.cell?_setCell_other _ _ _ _ (fun e => ?_)]
        · exact h10
        · have e1 : T.q i = b := congrArg Addr.block e
          have e2 : (0 : Nat) = off + (i' * (intE .u8).sz + j) := congrArg Addr.off e
          have h11 := (hT.part i hin).drew.cell 0
          rw [← e1, ← e2, h11] at h10
          simp at h10
          have hj : j = 0 := by have := (List.getElem?_eq_some_iff.1 hu).1; simp [intE] at this; exact this
          subst hj
          simp [intE] at hu
          rw [← hu] at h10
          cases h10
      refine (put1_new (w := wq.drew.setCell ⟨T.q i, 0, none⟩ (.int .i32 1)) (x := ⟨⟨uid, fl, body⟩, A, body.length, c⟩) ((hT.map i hin).drew.setCell (a := ⟨T.q i, 0, none⟩) hmq _) hok (by unfold maxLen; omega) (bg.drew.far (p := ⟨T.q i, 0, none⟩) hgq _) (be.drew.far (p := ⟨T.q i, 0, none⟩) heq _) hbq (by show body.length ≤ 100000; omega) hga).mono ?_
      rintro e w2 ⟨rfl, y, hym, h5, h6, h7⟩
      have hsz : (wq.drew.setCell ⟨T.q i, 0, none⟩ (.int .i32 1)).heap.size = w.heap.size + 2 := by simp [World.setCell]; exact hqs
      refine ⟨rfl, X ++ [y], ?_, fr_or h7 fun _ h => .inl h, fun x hx => ?_, fun j hj hjn => ?_, hnd y hym, fun x hx => ?_, ⟨y, hym, rfl⟩, h7.blk (bg.drew.far (p := ⟨T.q i, 0, none⟩) hgq _) (by omega), h7.blk (be.drew.far (p := ⟨T.q i, 0, none⟩) heq _) (by omega)⟩
      · rw [ent_app, hym, if_pos hi]
        exact h5.perm (put_new_perm hga)
      · rcases List.mem_append.1 hx with hx | hx
        · exact .inl (h.body x hx)
        · simp at hx
          subst hx
          exact .inr (h6.mono (by rw [hsz]; omega))
      · rw [ent_app, hym, if_neg]
        simp only
        rw [hi]
        omega
      · rcases List.mem_append.1 hx with hx | hx
        · exact h.ok x hx
        · simp at hx
          subst hx
          rw [hym]
          exact ⟨⟨⟨by show 1 ≤ uid; omega, hx0.1.2⟩, ⟨hx0.2.1, h1⟩⟩, h2⟩
    · rintro e w' ⟨rfl, X', w2, rfl, ⟨⟨y, hym, rfl⟩, h5, h6⟩, h7, h8⟩
      exact ⟨rfl, ⟨y, hym, h7, h8⟩, h5.far (p := ⟨T.q i, 0, none⟩) hgq _, h6.far (p := ⟨T.q i, 0, none⟩) heq _⟩
  go_region_held3 (fun w' => w'.cell? ⟨T.tb, 0, none⟩ = some (.slice (some ⟨T.pb, 0, none⟩) T.n T.c) ∧ w'.cell? ⟨w.heap.size, 0, none⟩ = some (.int .u32 uid) ∧ w'.cell? ⟨T.pb, i, none⟩ = some (.pointer (some ⟨T.q i, 0, none⟩))) (first | go_keep | (refine ⟨?_, ?_, ?_⟩ <;> assumption))
    ((first
      | (go_at_call 238
         refine (tof_any (hT.new (by repeat' first | exact New.refl _ | apply Fr.drewN | apply Fr.drew)) uid (by omega) (by omega)).mono ?_
         rw [hi]
         rintro e w3 ⟨rfl, rfl⟩)
      | (go_at_call 191
         refine HD.out.mono ?_
         rintro e w4 ⟨rfl, ⟨y, hym, hTn⟩, h5, h6⟩
         have k0 : w4.cell? ⟨T.tb, 0, none⟩ = some (.slice (some ⟨T.pb, 0, none⟩) T.n T.c) := hTn.1.hd.cell 0
         have k1 : w4.cell? ⟨w.heap.size, 0, none⟩ = some (.int .u32 uid) := h5.cell 0
         have k2 : w4.cell? ⟨T.pb, i, none⟩ = some (.pointer (some ⟨T.q i, 0, none⟩)) := hTn.1.ptr hin
         have k3 : w4.cell? ⟨w.heap.size + 1, 0, none⟩ = some (.int .i64 0) := h6.cell 0)
      | fail))
  all_goals
    go_wp2
    go_ret
    exact ⟨rfl, y, hym, hTn⟩

theorem findX_isSome {X : List MB} {k : Int} : (findX X k).isSome = (findM (X.map MB.m) k).isSome := by
  rw [findX_map]; cases findX X k <;> rfl

/-- Put: the code, the messages. -/
theorem tput_any {base : Nat} {w : World} {T : Tb} {X : List MB} (h : TBX base w T X) (hbs : base ≤ w.heap.size) (hX : X.length ≤ 100000) (x : MB) (hx : x.m.wf) (hb : Rd (intE .u8) w x.bv x.m.body) :
    Calls Tryz.prog 188 #[.pointer (some ⟨T.tb, 0, none⟩), x.val] w fun e w' => e = .returned (.int .i64 (putC (X.map MB.m) x.m)) ∧ ∃ X', X'.map MB.m = putM (X.map MB.m) x.m ∧ X'.length ≤ X.length + 1 ∧ TBX base w' T X' ∧ Fr T.foot w w' := by
  by_cases hc : x.m.uid = 0 ∨ 31 < x.m.fl ∨ 65536 < x.m.body.length
  · have hp : putC (X.map MB.m) x.m = 2 := if_pos hc
    refine (tput_range T.tb x w hb hc).mono ?_
    rintro e w' ⟨rfl, hn⟩
    exact ⟨by rw [hp], X, by unfold putM; rw [hp]; rfl, by omega, h.new hn, New.to hn⟩
  · have h0 : x.m.uid ≠ 0 := fun e => hc (.inl e)
    have h1 : x.m.fl ≤ 31 := by rcases Int.lt_or_le 31 x.m.fl with h | h; exact absurd (.inr (.inl h)) hc; exact h
    have h2 : x.m.body.length ≤ 65536 := by rcases Nat.lt_or_ge 65536 x.m.body.length with h | h; exact absurd (.inr (.inr h)) hc; exact h
    have hp := putC_ok (M := X.map MB.m) h0 h1 h2
    rw [← findX_isSome] at hp
    cases hy : findX X x.m.uid with
    | some y =>
      rw [hy] at hp
      have hp : putC (X.map MB.m) x.m = 8 := hp
      refine (tput_has h x y hx hb h0 h1 h2 hy).mono ?_
      rintro e w' ⟨rfl, hn⟩
      exact ⟨by rw [hp], X, by unfold putM; rw [hp]; rfl, by omega, hn⟩
    | none =>
      rw [hy] at hp
      have hp : putC (X.map MB.m) x.m = 0 := hp
      refine (tput_new h hbs hX x hx hb h0 h1 h2 hy).mono ?_
      rintro e w' ⟨rfl, y, hym, hn⟩
      exact ⟨by rw [hp], X ++ [y], by unfold putM; rw [hp, if_pos rfl, List.map_append, List.map_singleton, hym], by simp, hn⟩

end Go.Proofs.YtliimglbbiebiaaGreatDoor
end

