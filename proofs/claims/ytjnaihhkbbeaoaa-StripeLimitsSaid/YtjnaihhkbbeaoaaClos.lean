/- The functions that a table hands to its stripes: put, get, remove, change of flags. -/
import Derived.Test.YtjnaihhkbbeaoaaTblNew
import Derived.Test.YtjnaihhkbbeaoaaStepPut
import Derived.Test.YtjnaihhkbbeaoaaFlag
import Derived.Deep.RegionHeld3
namespace Go.Proofs.Ytjnaihhkbbeaoaa
open Go.RowKit Go.Maps

theorem okU {k : Int} (h0 : 0 ≤ k) (h1 : k ≤ 4294967295) : uKeys.ok k := by
  show (Lit.int .u32 k).wf = true
  have h2 : IntKind.u32.min ≤ k := by rw [show IntKind.u32.min = 0 from rfl]; exact h0
  have h3 : k ≤ IntKind.u32.max := by rw [show IntKind.u32.max = 4294967295 from rfl]; exact h1
  simp [Lit.wf, h2, h3]

set_option maxRecDepth 100000 in
set_option maxHeartbeats 1600000 in
/-- Put's: the identifier is there. -/
theorem put1_has {w : World} {mb g eb : Nat} {l : List (Int × Value)} {x y : MB} (h : HasMap uKeys w mb l) (hk : uKeys.ok x.m.uid) (hg : Blk w g 34 #[.int .u32 x.m.uid, .int .u8 x.m.fl, x.bv]) (he : Blk w eb 35 #[.int .i64 0])
    (hl : get l x.m.uid = some y.val) :
    Calls Try.prog 28 #[.map (some mb), .pointer (some ⟨g, 0, none⟩), .pointer (some ⟨eb, 0, none⟩)] w fun e w' => e = .returned (.tuple #[]) ∧ (Blk w' eb 35 #[.int .i64 8] ∧ One eb w w') := by
  obtain ⟨⟨uid, fl, body⟩, A, n, c⟩ := x
  obtain ⟨⟨uid', fl', body'⟩, A', n', c'⟩ := y
  simp only [MB.bv, MB.val] at hg hl hk ⊢
  have hlk := h.run_look_ok (t := 64) (e := 34) Try.underlying64 (zeroMsg w) hk
  rw [hl] at hlk
  simp only [Option.getD_some, Option.isSome_some] at hlk
  change (Instr.lookup 64 (.map (some mb)) (.int .u32 uid) true).run Try.prog w = _ at hlk
  have c0 : w.cell? ⟨g, 0, none⟩ = some (.int .u32 uid) := hg.cell 0
  have hel := he.lt
  have e1 := fun cs => (Blk.alloc he (.cells cs 34))
  have ec := fun cs => (e1 cs).cell 0
  have ef := fun cs => (e1 cs).frozen 0
  clear hl
  go_enter Try.func28, Try.ntmps28
  go_wp2
  first | go_end0 | (simp only [Exit.inBlock, Exit.then]; refine bodyPost_ret (results_none rfl _ _ _) rfl ?_) | refine bodyPost_ret (results_none rfl _ _ _) rfl ?_
  exact ⟨rfl, (he.set_ 0 _).alloc _, ((One.refl _ _).set 0 _).alloc _⟩

set_option maxRecDepth 100000 in
set_option maxHeartbeats 3200000 in
/-- Put's: it is not: a message with a body of its own is laid there. -/
theorem put1_new {w : World} {mb g eb : Nat} {l : List (Int × Value)} {x : MB} (h : HasMap uKeys w mb l) (hk : uKeys.ok x.m.uid) (hln : l.length < maxLen) (hg : Blk w g 34 #[.int .u32 x.m.uid, .int .u8 x.m.fl, x.bv]) (_he : Blk w eb 35 #[.int .i64 0])
    (hb : Rd (intE .u8) w x.bv x.m.body) (hbl : x.m.body.length ≤ 100000) (hl : get l x.m.uid = none) :
    Calls Try.prog 28 #[.map (some mb), .pointer (some ⟨g, 0, none⟩), .pointer (some ⟨eb, 0, none⟩)] w fun e w' => e = .returned (.tuple #[]) ∧ ∃ y : MB, y.m = x.m ∧ HasMap uKeys w' mb (put l x.m.uid y.val) ∧ Own (intE .u8) 5 w.heap.size w' y.bv y.m.body ∧ One mb w w' := by
  have hlk := h.run_look_ok (t := 64) (e := 34) Try.underlying64 (zeroMsg w) hk
  rw [hl] at hlk
  simp only [Option.getD_none, Option.isSome_none] at hlk
  have HB := Lib.hid hb
  have HG := Lib.hid hg
  obtain ⟨x, rfl⟩ : ∃ x', x' = x := ⟨_, rfl⟩
  have hm := hg.cell
  obtain ⟨⟨uid, fl, body⟩, A, n, c⟩ := x
  simp only [MB.bv] at hg hlk ⊢
  change (Instr.lookup 64 (.map (some mb)) (.int .u32 uid) true).run Try.prog w = _ at hlk
  have hgl := hg.lt
  have hn1 : New w (w.alloc (.cells #[.int .u32 0, .int .u8 0, .slice none 0 0] 34)) := (New.refl w).alloc _
  have g1 := hn1.blk hg
  have c0 : w.cell? ⟨g, 0, none⟩ = some (.int .u32 uid) := hg.cell 0
  have H1 := Lib.hid (h.fr hn1 id)
  have HB1 := Lib.hid (HB.out.new hn1)
  have hgm : g ≠ mb := Ne.symm (h.ne_blk hg)
  have hmlt := h.lt
  clear hl hb hm h
  obtain ⟨wq, hwq⟩ : ∃ wq, wq = w.alloc (.cells #[.int .u32 0, .int .u8 0, .slice none 0 0] 34) := ⟨_, rfl⟩
  have hwqs : wq.heap.size = w.heap.size + 1 := by rw [hwq]; simp
  have q0 : wq.cell? ⟨g, 0, none⟩ = some (.int .u32 uid) := by rw [hwq]; exact g1.cell 0
  have q1 : wq.cell? ⟨g, 1, none⟩ = some (.int .u8 fl) := by rw [hwq]; exact g1.cell 1
  have q2 : wq.cell? ⟨g, 2, none⟩ = some (.slice A n c) := by rw [hwq]; exact g1.cell 2
  go_enter Try.func28, Try.ntmps28
  go_wp2_with fail
  rw [← hwq] at H1 HB1 hn1 ⊢
  clear hwq g1 c0 hlk
  go_region_held3 (fun w' => w'.cell? ⟨g, 0, none⟩ = some (.int .u32 uid) ∧ w'.cell? ⟨g, 1, none⟩ = some (.int .u8 fl) ∧ w'.cell? ⟨g, 2, none⟩ = some (.slice A n c)) (first | go_keep | (refine ⟨?_, ?_, ?_⟩ <;> assumption))
    ((first
      | (go_at_call 29
         refine (mclone_any ⟨⟨uid, fl, body⟩, A, n, c⟩ _ (HB1.out.new ?nw) hbl).mono ?_
         case nw => repeat' first | exact New.refl _ | apply Fr.drewN | apply Fr.drew
         rintro e w3 ⟨y, rfl, hy, hoy, hn3⟩
         have hnq : New wq w3 := Fr.trans (by repeat' first | exact New.refl _ | apply Fr.drewN | apply Fr.drew) hn3
         have d0 : w3.cell? ⟨g, 0, none⟩ = some (.int .u32 uid) := Fr.cell hnq q0 id
         have d1 : w3.cell? ⟨g, 1, none⟩ = some (.int .u8 fl) := Fr.cell hnq q1 id
         have d2 : w3.cell? ⟨g, 2, none⟩ = some (.slice A n c) := Fr.cell hnq q2 id
         obtain ⟨w4, hr4, hm4, ho4⟩ := (H1.out.fr hnq id).run_put (t := 64) (e := 34) Try.underlying64 hln hk y.val
         change (Instr.mapUpdate 64 (.map (some mb)) (.int .u32 uid) y.val).run Try.prog w3 = _ at hr4
         have f0 : w4.cell? ⟨g, 0, none⟩ = some (.int .u32 uid) := Fr.cell ho4 d0 hgm
         have f1 : w4.cell? ⟨g, 1, none⟩ = some (.int .u8 fl) := Fr.cell ho4 d1 hgm
         have f2 : w4.cell? ⟨g, 2, none⟩ = some (.slice A n c) := Fr.cell ho4 d2 hgm)
      | fail))
  go_wp2
  first | go_end0 | (simp only [Exit.inBlock, Exit.then]; refine bodyPost_ret (results_none rfl _ _ _) rfl ?_) | refine bodyPost_ret (results_none rfl _ _ _) rfl ?_
  have hlo := hn1.size
  refine ⟨rfl, y, hy, hm4, (hoy.fr ho4 fun b hb hs => ?_).mono (by simpa using hlo), Fr.trans (New.to (hn1.trans hnq)) ho4⟩
  have h1 := (hoy.block hb).1
  have h2 : wq.drew.heap.size = wq.heap.size := rfl
  subst hs
  omega

/-- The message that no identifier has. -/
def mb0 : MB := ⟨msg0, none, 0, 0⟩

set_option maxRecDepth 100000 in
set_option maxHeartbeats 1600000 in
/-- Get's. -/
theorem get1_any {w : World} {mb kb g ob : Nat} {l : List (Int × Value)} {k : Int} {cs : Array Value} {b0 : Value} {o : Option MB} (h : HasMap uKeys w mb l) (hk : uKeys.ok k) (hkb : Blk w kb 22 #[.int .u32 k]) (hg : Blk w g 34 cs) (hcs : cs.size = 3)
    (ho : Blk w ob 4 #[b0]) (hl : get l k = o.map MB.val) :
    Calls Try.prog 32 #[.map (some mb), .pointer (some ⟨kb, 0, none⟩), .pointer (some ⟨g, 0, none⟩), .pointer (some ⟨ob, 0, none⟩)] w fun e w' => e = .returned (.tuple #[]) ∧
      (Blk w' g 34 #[.int .u32 (o.getD mb0).m.uid, .int .u8 (o.getD mb0).m.fl, (o.getD mb0).bv] ∧ Blk w' ob 4 #[.bool o.isSome] ∧ Fr (fun k => k = g ∨ k = ob) w w') := by
  have hlk := h.run_look_ok (t := 64) (e := 34) Try.underlying64 (zeroMsg w) hk
  have hv : (get l k).getD (.agg #[.int .u32 0, .int .u8 0, .slice none 0 0]) = (o.getD mb0).val := by rw [hl]; cases o <;> rfl
  have hs : (get l k).isSome = o.isSome := by rw [hl]; cases o <;> rfl
  rw [hv, hs] at hlk
  generalize o.getD mb0 = x at *
  generalize o.isSome = q at *
  clear hv hs hl
  obtain ⟨⟨uid, fl, body⟩, A, n, c⟩ := x
  simp only [MB.bv, MB.val] at hlk ⊢
  change (Instr.lookup 64 (.map (some mb)) (.int .u32 k) true).run Try.prog w = _ at hlk
  have ck : w.cell? ⟨kb, 0, none⟩ = some (.int .u32 k) := hkb.cell 0
  obtain ⟨l0⟩ := cs
  match l0, hcs with
  | [x0, x1, x2], _ =>
  have g0 : w.cell? ⟨g, 0, none⟩ = some x0 := hg.cell 0
  have g1 : w.cell? ⟨g, 1, none⟩ = some x1 := hg.cell 1
  have g2 : w.cell? ⟨g, 2, none⟩ = some x2 := hg.cell 2
  have z0 := hg.frozen 0
  have z1 := hg.frozen 1
  have z2 := hg.frozen 2
  have o0 : w.cell? ⟨ob, 0, none⟩ = some b0 := ho.cell 0
  have y0 := ho.frozen 0
  have hne : ob ≠ g := ho.ne_ hg (by decide)
  have h1 := ((hg.set_ 0 (.int .u32 uid)).set_ 1 (.int .u8 fl)).set_ 2 (.slice A n c)
  have h2 := ((ho.far (p := ⟨g, 0, none⟩) hne (.int .u32 uid)).far (p := ⟨g, 1, none⟩) hne (.int .u8 fl)).far (p := ⟨g, 2, none⟩) hne (.slice A n c)
  have p0 := h2.cell 0
  have p1 := h2.frozen 0
  go_enter Try.func32, Try.ntmps32
  go_wp2
  first | go_end0 | (simp only [Exit.inBlock, Exit.then]; refine bodyPost_ret (results_none rfl _ _ _) rfl ?_) | refine bodyPost_ret (results_none rfl _ _ _) rfl ?_
  exact ⟨rfl, h1.far (by simp; exact Ne.symm hne) _, h2.set_ 0 _, ((((Fr.refl _ _).setCell (fun _ => .inl rfl) _).setCell (fun _ => .inl rfl) _).setCell (fun _ => .inl rfl) _).setCell (fun _ => .inr rfl) _⟩

set_option maxRecDepth 100000 in
set_option maxHeartbeats 1600000 in
/-- Remove's. -/
theorem remove1_any {w : World} {mb kb g ob : Nat} {l : List (Int × Value)} {k : Int} {cs : Array Value} {b0 : Value} {o : Option MB} (h : HasMap uKeys w mb l) (hk : uKeys.ok k) (hkb : Blk w kb 22 #[.int .u32 k]) (hg : Blk w g 34 cs) (hcs : cs.size = 3)
    (ho : Blk w ob 4 #[b0]) (hl : get l k = o.map MB.val) :
    Calls Try.prog 38 #[.map (some mb), .pointer (some ⟨kb, 0, none⟩), .pointer (some ⟨g, 0, none⟩), .pointer (some ⟨ob, 0, none⟩)] w fun e w' => e = .returned (.tuple #[]) ∧
      (Blk w' g 34 #[.int .u32 (o.getD mb0).m.uid, .int .u8 (o.getD mb0).m.fl, (o.getD mb0).bv] ∧ Blk w' ob 4 #[.bool o.isSome] ∧ HasMap uKeys w' mb (del l k) ∧ Fr (fun k => k = mb ∨ k = g ∨ k = ob) w w') := by
  have hlk := h.run_look_ok (t := 64) (e := 34) Try.underlying64 (zeroMsg w) hk
  have hv : (get l k).getD (.agg #[.int .u32 0, .int .u8 0, .slice none 0 0]) = (o.getD mb0).val := by rw [hl]; cases o <;> rfl
  have hs : (get l k).isSome = o.isSome := by rw [hl]; cases o <;> rfl
  rw [hv, hs] at hlk
  generalize o.getD mb0 = x at *
  generalize o.isSome = q at *
  clear hv hs hl
  obtain ⟨⟨uid, fl, body⟩, A, n, c⟩ := x
  simp only [MB.bv, MB.val] at hlk ⊢
  change (Instr.lookup 64 (.map (some mb)) (.int .u32 k) true).run Try.prog w = _ at hlk
  have ck : w.cell? ⟨kb, 0, none⟩ = some (.int .u32 k) := hkb.cell 0
  obtain ⟨l0⟩ := cs
  match l0, hcs with
  | [x0, x1, x2], _ =>
  have g0 : w.cell? ⟨g, 0, none⟩ = some x0 := hg.cell 0
  have g1 : w.cell? ⟨g, 1, none⟩ = some x1 := hg.cell 1
  have g2 : w.cell? ⟨g, 2, none⟩ = some x2 := hg.cell 2
  have z0 := hg.frozen 0
  have z1 := hg.frozen 1
  have z2 := hg.frozen 2
  have o0 : w.cell? ⟨ob, 0, none⟩ = some b0 := ho.cell 0
  have y0 := ho.frozen 0
  have hne : ob ≠ g := ho.ne_ hg (by decide)
  have hkg : kb ≠ g := hkb.ne_ hg (by decide)
  have hko : kb ≠ ob := hkb.ne_ ho (by decide)
  have hmg := h.ne_blk hg
  have hmo := h.ne_blk ho
  have h1 := (((hg.set_ 0 (.int .u32 uid)).set_ 1 (.int .u8 fl)).set_ 2 (.slice A n c)).far (p := ⟨ob, 0, none⟩) (Ne.symm hne) (.bool q)
  have h2 := ((ho.far (p := ⟨g, 0, none⟩) hne (.int .u32 uid)).far (p := ⟨g, 1, none⟩) hne (.int .u8 fl)).far (p := ⟨g, 2, none⟩) hne (.slice A n c)
  have p0 := h2.cell 0
  have p1 := h2.frozen 0
  have h3 := h2.set_ 0 (.bool q)
  have hm4 := (((h.setCell (a := ⟨g, 0, none⟩) hmg (.int .u32 uid)).setCell (a := ⟨g, 1, none⟩) hmg (.int .u8 fl)).setCell (a := ⟨g, 2, none⟩) hmg (.slice A n c)).setCell (a := ⟨ob, 0, none⟩) hmo (.bool q)
  have hf4 : Fr (fun k => k = mb ∨ k = g ∨ k = ob) w ((((w.setCell ⟨g, 0, none⟩ (.int .u32 uid)).setCell ⟨g, 1, none⟩ (.int .u8 fl)).setCell ⟨g, 2, none⟩ (.slice A n c)).setCell ⟨ob, 0, none⟩ (.bool q)) :=
    ((((Fr.refl _ _).setCell (fun _ => .inr (.inl rfl)) _).setCell (fun _ => .inr (.inl rfl)) _).setCell (fun _ => .inr (.inl rfl)) _).setCell (fun _ => .inr (.inr rfl)) _
  have H1 := Lib.hid h1
  have H3 := Lib.hid h3
  have HM4 := Lib.hid hm4
  have HF4 := Lib.hid hf4
  clear h1 h2 h3 hm4 hf4
  go_enter Try.func38, Try.ntmps38
  go_wp2_with (first
    | (at_delete; refine wpList_del (E := uKeys) rfl _ _ 64 34 rfl Try.underlying64 HM4.out k hk rfl rfl ?_; intro w6 hm6 ho6)
    | fail)
  first | go_end0 | (simp only [Exit.inBlock, Exit.then]; refine bodyPost_ret (results_none rfl _ _ _) rfl ?_) | refine bodyPost_ret (results_none rfl _ _ _) rfl ?_
  exact ⟨rfl, ho6.blk H1.out (Ne.symm hmg), ho6.blk H3.out (Ne.symm hmo), hm6, HF4.out.trans (fr_or ho6 fun _ h => .inl h)⟩

set_option maxRecDepth 100000 in
set_option maxHeartbeats 3200000 in
/-- Flags': no such message, or no such change: a code is laid. -/
theorem flags1_no {w : World} {mb kb eb xb fb ob : Nat} {l : List (Int × Value)} {k mode f : Int} {o : Option MB} (h : HasMap uKeys w mb l) (hk : uKeys.ok k) (hkb : Blk w kb 22 #[.int .u32 k]) (he : Blk w eb 35 #[.int .i64 0])
    (hx : Blk w xb 3 #[.int .i64 mode]) (hfb : Blk w fb 31 #[.int .u8 f]) (hl : get l k = o.map MB.val) (hf : 0 ≤ f ∧ f ≤ 255) (hm : (Lit.int .i64 mode).wf = true) (hw : ∀ x, o = some x → 0 ≤ x.m.fl ∧ x.m.fl ≤ 255)
    (hno : ∀ x, o = some x → chg x.m.fl mode f = none) :
    Calls Try.prog 39 #[.map (some mb), .pointer (some ⟨kb, 0, none⟩), .pointer (some ⟨eb, 0, none⟩), .pointer (some ⟨xb, 0, none⟩), .pointer (some ⟨fb, 0, none⟩), .pointer (some ⟨ob, 0, none⟩)] w fun e w' => e = .returned (.tuple #[]) ∧
      (Blk w' eb 35 #[.int .i64 (if o.isSome then 2 else 7)] ∧ One eb w w') := by
  have hlk := h.run_look_ok (t := 64) (e := 34) Try.underlying64 (zeroMsg w) hk
  have hnt : ∀ (x : Bool) (w : World), (Op.unary .not (.bool x)).run Try.prog w = .ok (.bool (!x)) w := fun _ _ => rfl
  change (Instr.lookup 64 (.map (some mb)) (.int .u32 k) true).run Try.prog w = _ at hlk
  have ck : w.cell? ⟨kb, 0, none⟩ = some (.int .u32 k) := hkb.cell 0
  have hel := he.lt
  have hxl := hx.lt
  have hfl := hfb.lt
  cases o with
  | none =>
    rw [show get l k = none from hl] at hlk
    simp only [Option.getD_none, Option.isSome_none] at hlk
    have e1 := fun cs => (Blk.alloc he (.cells cs 34))
    have ec := fun cs => (e1 cs).cell 0
    have ef := fun cs => (e1 cs).frozen 0
    clear hno hw hl
    go_enter Try.func39, Try.ntmps39
    go_wp2
    first | go_end0 | (simp only [Exit.inBlock, Exit.then]; refine bodyPost_ret (results_none rfl _ _ _) rfl ?_) | refine bodyPost_ret (results_none rfl _ _ _) rfl ?_
    exact ⟨rfl, (he.set_ 0 _).alloc _, ((One.refl _ _).set 0 _).alloc _⟩
  | some x =>
    rw [show get l k = some x.val from hl] at hlk
    simp only [Option.getD_some, Option.isSome_some] at hlk
    have hc0 := hno x rfl
    have hw0 := hw x rfl
    obtain ⟨⟨uid, fl, body⟩, A, n, c⟩ := x
    simp only [MB.val] at hlk hc0 hw0
    have HC := Lib.hid (fun w => change_any fl mode f hw0 hf hm w)
    rw [hc0] at HC
    simp only [Option.getD_none, Option.isSome_none] at HC
    have cx : w.cell? ⟨xb, 0, none⟩ = some (.int .i64 mode) := hx.cell 0
    have cf : w.cell? ⟨fb, 0, none⟩ = some (.int .u8 f) := hfb.cell 0
    have hn1 : New w (w.alloc (.cells #[.int .u32 uid, .int .u8 fl, .slice A n c] 34)) := (New.refl w).alloc _
    have b1 := Blk.new w 34 #[.int .u32 uid, .int .u8 fl, .slice A n c]
    have e1 := hn1.blk he
    clear hno hw hl hc0
    go_enter Try.func39, Try.ntmps39
    go_wp2_with fail
    refine (HC.out _).mono ?_
    rintro e w3 ⟨rfl, hn3⟩
    have b3 := hn3.blk b1
    have c3 := b3.cell 1
    have f3 := b3.frozen 1
    have e3 := hn3.blk e1
    have e4 := e3.far (p := ⟨w.heap.size, 1, none⟩) (by simp; omega) (.int .u8 0)
    have ce := e4.cell 0
    have fe := e4.frozen 0
    have HF := Lib.hid (hn1.trans hn3)
    go_wp2
    first | go_end0 | (simp only [Exit.inBlock, Exit.then]; refine bodyPost_ret (results_none rfl _ _ _) rfl ?_) | refine bodyPost_ret (results_none rfl _ _ _) rfl ?_
    exact ⟨rfl, e4.set_ 0 _, One.set (Fr.setCell (New.to HF.out : One eb w w3) (p := ⟨w.heap.size, 1, none⟩) (fun h => absurd h (by simp)) _) 0 _⟩

set_option maxRecDepth 100000 in
set_option maxHeartbeats 3200000 in
/-- Flags': the message's flags change. -/
theorem flags1_yes {w : World} {mb kb eb xb fb ob : Nat} {l : List (Int × Value)} {k mode f v0 v : Int} {x : MB} (h : HasMap uKeys w mb l) (hln : l.length < maxLen) (hk : uKeys.ok k) (hkb : Blk w kb 22 #[.int .u32 k])
    (hx : Blk w xb 3 #[.int .i64 mode]) (hfb : Blk w fb 31 #[.int .u8 f]) (ho : Blk w ob 31 #[.int .u8 v0]) (hl : get l k = some x.val) (hf : 0 ≤ f ∧ f ≤ 255) (hm : (Lit.int .i64 mode).wf = true) (hw : 0 ≤ x.m.fl ∧ x.m.fl ≤ 255)
    (hc : chg x.m.fl mode f = some v) :
    Calls Try.prog 39 #[.map (some mb), .pointer (some ⟨kb, 0, none⟩), .pointer (some ⟨eb, 0, none⟩), .pointer (some ⟨xb, 0, none⟩), .pointer (some ⟨fb, 0, none⟩), .pointer (some ⟨ob, 0, none⟩)] w fun e w' => e = .returned (.tuple #[]) ∧
      (Blk w' ob 31 #[.int .u8 v] ∧ HasMap uKeys w' mb (put l k (x.setf v).val) ∧ Fr (fun k => k = mb ∨ k = ob) w w') := by
  have hlk := h.run_look_ok (t := 64) (e := 34) Try.underlying64 (zeroMsg w) hk
  have hnt : ∀ (x : Bool) (w : World), (Op.unary .not (.bool x)).run Try.prog w = .ok (.bool (!x)) w := fun _ _ => rfl
  change (Instr.lookup 64 (.map (some mb)) (.int .u32 k) true).run Try.prog w = _ at hlk
  rw [hl] at hlk
  simp only [Option.getD_some, Option.isSome_some] at hlk
  have ck : w.cell? ⟨kb, 0, none⟩ = some (.int .u32 k) := hkb.cell 0
  obtain ⟨⟨uid, fl, body⟩, A, n, c⟩ := x
  simp only [MB.val, MB.setf] at hlk hc hw ⊢
  have HC := Lib.hid (fun w => change_any fl mode f hw hf hm w)
  rw [hc] at HC
  simp only [Option.getD_some, Option.isSome_some] at HC
  have cx : w.cell? ⟨xb, 0, none⟩ = some (.int .i64 mode) := hx.cell 0
  have cf : w.cell? ⟨fb, 0, none⟩ = some (.int .u8 f) := hfb.cell 0
  have hkl := hkb.lt
  have hxl := hx.lt
  have hfl := hfb.lt
  have hol := ho.lt
  have hml := h.lt
  have hmo := h.ne_blk ho
  have hmk := h.ne_blk hkb
  have hn1 : New w (w.alloc (.cells #[.int .u32 uid, .int .u8 fl, .slice A n c] 34)) := (New.refl w).alloc _
  have b1 := Blk.new w 34 #[.int .u32 uid, .int .u8 fl, .slice A n c]
  have k1 := hn1.blk hkb
  have o1 := hn1.blk ho
  have H1 := Lib.hid (h.fr hn1 id)
  clear hl hc
  go_enter Try.func39, Try.ntmps39
  go_wp2_with fail
  refine (HC.out _).mono ?_
  rintro e w3 ⟨rfl, hn3⟩
  have b3 := hn3.blk b1
  have c3 := b3.cell 1
  have f3 := b3.frozen 1
  have k3 := (hn3.blk k1).far (p := ⟨w.heap.size, 1, none⟩) (by simp; omega) (.int .u8 v)
  have o3 := (hn3.blk o1).far (p := ⟨w.heap.size, 1, none⟩) (by simp; omega) (.int .u8 v)
  have b4 := b3.set_ 1 (.int .u8 v)
  have HM := Lib.hid ((H1.out.fr hn3 id).setCell (a := ⟨w.heap.size, 1, none⟩) (by simp; omega) (.int .u8 v))
  have HF := Lib.hid (Fr.setCell (p := ⟨w.heap.size, 1, none⟩) (New.to (hn1.trans hn3) : Fr (fun k => k = mb ∨ k = ob) w w3) (fun h => absurd h (by simp)) (.int .u8 v))
  go_wp2_with fail
  obtain ⟨wq, hwq⟩ : ∃ wq, wq = w3.setCell ⟨w.heap.size, 1, none⟩ (.int .u8 v) := ⟨_, rfl⟩
  rw [← hwq] at k3 o3 b4 HM HF ⊢
  have hqs : w.heap.size < wq.heap.size := b4.lt
  clear hwq hn1 hn3 b1 b3 k1 o1 H1 c3 f3
  obtain ⟨w5, hr5, hm5, ho5⟩ := (HM.out.fr (w' := wq.drew) ((New.refl wq).drew) id).run_put (t := 64) (e := 34) Try.underlying64 hln hk (.agg #[.int .u32 uid, .int .u8 v, .slice A n c])
  change (Instr.mapUpdate 64 (.map (some mb)) (.int .u32 k) (.agg #[.int .u32 uid, .int .u8 v, .slice A n c])).run Try.prog wq.drew = _ at hr5
  have p0 : wq.drew.cell? ⟨w.heap.size, 0, none⟩ = some (.int .u32 uid) := b4.cell 0
  have p1 : wq.drew.cell? ⟨w.heap.size, 1, none⟩ = some (.int .u8 v) := b4.cell 1
  have p2 : wq.drew.cell? ⟨w.heap.size, 2, none⟩ = some (.slice A n c) := b4.cell 2
  have pk : wq.drew.cell? ⟨kb, 0, none⟩ = some (.int .u32 k) := k3.cell 0
  have q1 : w5.cell? ⟨w.heap.size, 1, none⟩ = some (.int .u8 v) := Fr.cell ho5 p1 (by simp; omega)
  have q0 : w5.cell? ⟨w.heap.size, 0, none⟩ = some (.int .u32 uid) := Fr.cell ho5 p0 (by simp; omega)
  have q2 : w5.cell? ⟨w.heap.size, 2, none⟩ = some (.slice A n c) := Fr.cell ho5 p2 (by simp; omega)
  have qk : w5.cell? ⟨kb, 0, none⟩ = some (.int .u32 k) := Fr.cell ho5 pk (by simp; omega)
  have o5 := ho5.blk (o3.drew) (by simp; omega)
  have r0 := o5.cell 0
  have r1 := o5.frozen 0
  go_region
  go_wp2
  first | go_end0 | (simp only [Exit.inBlock, Exit.then]; refine bodyPost_ret (results_none rfl _ _ _) rfl ?_) | refine bodyPost_ret (results_none rfl _ _ _) rfl ?_
  exact ⟨rfl, o5.set_ 0 _, hm5.setCell (by simp; omega) _, ((HF.out.drew).trans (fr_or ho5 fun _ h => .inl h)).setCell (fun _ => .inr rfl) _⟩

end Go.Proofs.Ytjnaihhkbbeaoaa
