/- A part of the proof: Full7, Full8, Full9. -/
import Derived.Test.YtliimglbbiebiaaGreatDoorGTopFullAS
import Derived.Test.YtliimglbbiebiaaGreatDoorGTopFullAT

section
/- exec: SELECT at a new session. -/
namespace Go.Proofs.YtliimglbbiebiaaGreatDoor
open Go.RowKit Go.Maps

def infoS (a : ByteArray) (n : Nat) (b : ByteArray) : ByteArray := ⟨#[91]⟩ ++ a ++ ⟨#[32]⟩ ++ decS n ++ ⟨#[93, 32]⟩ ++ b
abbrev infoR (a : ByteArray) (n : Nat) (b : ByteArray) : Rsp := ⟨6, 0, ⟨#[]⟩, 0, infoS a n b, 0, 0, 0, 0, none, 0, 0⟩
set_option maxHeartbeats 800000 in
theorem info_any (a b : ByteArray) (ha : a.size ≤ 1000) (hb : b.size ≤ 1000) (n : Nat) (hn : n < 4294967296) (w : World) (hT : Tabs w) : Calls Tryz.prog 93 #[.string a, .int .u32 n, .string b] w fun e w' => e = .returned (infoR a n b).val ∧ New w w' := by
  have HT := Lib.hid hT
  have hd := decS_size n hn
  have z1 : ByteArray.size ⟨#[91]⟩ = 1 := rfl
  have z2 : ByteArray.size ⟨#[32]⟩ = 1 := rfl
  have z3 : ByteArray.size ⟨#[93, 32]⟩ = 2 := rfl
  have a1 : ¬ 9223372036854775807 < 1 + a.size := by omega
  have a2 : ¬ 9223372036854775807 < 1 + a.size + 1 := by omega
  have a3 : ¬ 9223372036854775807 < 1 + a.size + 1 + (decS n).size := by omega
  have a4 : ¬ 9223372036854775807 < 1 + a.size + 1 + (decS n).size + 2 := by omega
  have a5 : ¬ 9223372036854775807 < 1 + a.size + 1 + (decS n).size + 2 + b.size := by omega
  clear hT
  go_enter Tryz.func93, Tryz.ntmps93
  go_wp2_with fail
  refine (decimal_any n hn _ (HT.out.new ((New.refl w).alloc _))).mono ?_
  rintro e w1 ⟨rfl, n1⟩
  have r1 := n1.blk (Blk.new w 53 #[.int .i64 0, .int .u32 0, .string ⟨#[]⟩, .int .i64 0, .string ⟨#[]⟩, .int .i64 0, .int .u8 0, .int .u32 0, .int .u32 0, .slice none 0 0])
  obtain ⟨q0, q1, q2, q3, q4, q5, q6, q7, q8, q9⟩ := r1.all10
  have ff := r1.froz
  have N1 := Lib.hid (((New.refl w).alloc _).trans n1)
  clear n1
  go_wp2
  have hR := r1.over10 (.int .i64 6) (.int .u32 0) (.string ⟨#[]⟩) (.int .i64 0) (.string (infoS a n b)) (.int .i64 0) (.int .u8 0) (.int .u32 0) (.int .u32 0) (.slice none 0 0)
  have hO := One.over10 w1 w.heap.size (.int .i64 6) (.int .u32 0) (.string ⟨#[]⟩) (.int .i64 0) (.string (infoS a n b)) (.int .i64 0) (.int .u8 0) (.int .u32 0) (.int .u32 0) (.slice none 0 0)
  exact bodyPost_ret (results_cell1 rfl _ _ rfl (loadR hR)) rfl ⟨rfl, New.one N1.out hO (Nat.le_refl _)⟩

abbrev infR (s : ByteArray) : Rsp := ⟨6, 0, ⟨#[]⟩, 0, s, 0, 0, 0, 0, none, 0, 0⟩
theorem info_some (a b : ByteArray) (ha : a.size ≤ 1000) (hb : b.size ≤ 1000) (n : Nat) (hn : n < 4294967296) (w : World) (hT : Tabs w) : Calls Tryz.prog 93 #[.string a, .int .u32 n, .string b] w fun e w' => ∃ s, e = .returned (.agg #[.int .i64 6, .int .u32 0, .string ⟨#[]⟩, .int .i64 0, .string s, .int .i64 0, .int .u8 0, .int .u32 0, .int .u32 0, .slice none 0 0]) ∧ New w w' :=
  (info_any a b ha hb n hn w hT).mono fun _ _ ⟨h1, h2⟩ => ⟨infoS a n b, h1, h2⟩

section
variable {w0 w w' : World} {base : Nat} {S : Sx} {Q : Qs} {M : List Msg} {n t f : Int} {xs v x : Nat} {u : Value} {l : List Int}
theorem rd_row {α : Type} {E : Elem α} {w : World} {g : Nat} {t : TypeId} {l : List α} (h : Blk w g t (E.cells l).toArray) : Rd E w (.slice (some ⟨g, 0, none⟩) l.length l.length) l := by
  refine ⟨_, l.length, rfl, Nat.le_refl _, fun _ => ⟨g, 0, rfl, fun i y hy j u hu => ?_⟩⟩
  have := h.cell (i * E.sz + j)
  rw [Nat.zero_add, this]
  have := E.cells_at hy hu
  simpa using this

theorem count_zero (k : Int) (w : World) : Calls Tryz.prog 95 #[.int .i64 k, .int .i64 0] w fun e w' => e = .returned (.agg #[.int .i64 k, .int .u32 0, .string ⟨#[]⟩, .int .i64 0, .string ⟨#[]⟩, .int .i64 0, .int .u8 0, .int .u32 0, .int .u32 0, .slice none 0 0]) ∧ New w w' := count_rsp k 0 (by omega) w
abbrev fiveR (s1 s2 : ByteArray) : List Rsp := [⟨5, 0, ⟨#[]⟩, 0, ⟨#[]⟩, 0, 0, 0, 0, none, 0, 0⟩, ⟨1, 0, ⟨#[]⟩, 0, ⟨#[]⟩, 0, 0, 0, 0, none, 0, 0⟩, ⟨2, 0, ⟨#[]⟩, 0, ⟨#[]⟩, 0, 0, 0, 0, none, 0, 0⟩, infR s1, infR s2]
theorem five_row (s1 s2 : ByteArray) (w : World) : Rd rspE (w.alloc (.cells #[.int .i64 5, .int .u32 0, .string ⟨#[]⟩, .int .i64 0, .string ⟨#[]⟩, .int .i64 0, .int .u8 0, .int .u32 0, .int .u32 0, .slice none 0 0, .int .i64 1, .int .u32 0, .string ⟨#[]⟩, .int .i64 0, .string ⟨#[]⟩, .int .i64 0, .int .u8 0, .int .u32 0, .int .u32 0, .slice none 0 0, .int .i64 2, .int .u32 0, .string ⟨#[]⟩, .int .i64 0, .string ⟨#[]⟩, .int .i64 0, .int .u8 0, .int .u32 0, .int .u32 0, .slice none 0 0, .int .i64 6, .int .u32 0, .string ⟨#[]⟩, .int .i64 0, .string s1, .int .i64 0, .int .u8 0, .int .u32 0, .int .u32 0, .slice none 0 0, .int .i64 6, .int .u32 0, .string ⟨#[]⟩, .int .i64 0, .string s2, .int .i64 0, .int .u8 0, .int .u32 0, .int .u32 0, .slice none 0 0] 53)) (.slice (some ⟨w.heap.size, 0, none⟩) 5 5) (fiveR s1 s2) :=
  rd_row (l := fiveR s1 s2) (t := 53) (show Blk _ _ _ (rspE.cells (fiveR s1 s2)).toArray from Blk.new w 53 #[.int .i64 5, .int .u32 0, .string ⟨#[]⟩, .int .i64 0, .string ⟨#[]⟩, .int .i64 0, .int .u8 0, .int .u32 0, .int .u32 0, .slice none 0 0, .int .i64 1, .int .u32 0, .string ⟨#[]⟩, .int .i64 0, .string ⟨#[]⟩, .int .i64 0, .int .u8 0, .int .u32 0, .int .u32 0, .slice none 0 0, .int .i64 2, .int .u32 0, .string ⟨#[]⟩, .int .i64 0, .string ⟨#[]⟩, .int .i64 0, .int .u8 0, .int .u32 0, .int .u32 0, .slice none 0 0, .int .i64 6, .int .u32 0, .string ⟨#[]⟩, .int .i64 0, .string s1, .int .i64 0, .int .u8 0, .int .u32 0, .int .u32 0, .slice none 0 0, .int .i64 6, .int .u32 0, .string ⟨#[]⟩, .int .i64 0, .string s2, .int .i64 0, .int .u8 0, .int .u32 0, .int .u32 0, .slice none 0 0])

/-- Blocks of responses have turned. -/
theorem FV.apart {R : Nat → Prop} (h : FV w0 base w S Q M n t f xs v x u l) (hf : Fr R w w') (hR : ∀ k, R k → base ≤ k ∧ w0.heap.size ≤ k ∧ ∃ cs, Blk w k 50 cs ∨ Blk w k 53 cs ∨ Blk w k 108 cs) : FV w0 base w' S Q M n t f xs v x u l := by
  have hnf : ∀ k, R k → ¬ S.foot Q k := fun k hk => by
    obtain ⟨hb, _, cs, hcs | hcs | hcs⟩ := hR k hk
    · exact h.st.not_foot hcs hb (by decide) (by decide) (by decide) (by decide) (by decide) (by decide)
    · exact h.st.not_foot hcs hb (by decide) (by decide) (by decide) (by decide) (by decide) (by decide)
    · exact h.st.not_foot hcs hb (by decide) (by decide) (by decide) (by decide) (by decide) (by decide)
  have hne : ∀ k e cs, R k → Blk w k e cs → e = 50 ∨ e = 53 ∨ e = 108 := fun k e cs hk hb => by
    obtain ⟨_, _, cs', hcs | hcs | hcs⟩ := hR k hk
    · by_cases he : e = 50
      · exact .inl he
      · exact absurd rfl (hb.ne_ hcs he)
    · by_cases he : e = 53
      · exact .inr (.inl he)
      · exact absurd rfl (hb.ne_ hcs he)
    · by_cases he : e = 108
      · exact .inr (.inr he)
      · exact absurd rfl (hb.ne_ hcs he)
  have hno : ∀ k e cs, Blk w k e cs → e ≠ 50 → e ≠ 53 → e ≠ 108 → ¬ R k := fun k e cs hb n1 n2 n3 hk => by
    rcases hne k e cs hk hb with h | h | h
    · exact n1 h
    · exact n2 h
    · exact n3 h
  exact { h with
    st := h.st.keep hf (fun k hk hr => hnf k hr hk) (fun vv ll ho b hb hr => by obtain ⟨cs, hcs⟩ := ho.heap hb; exact hno b _ _ hcs (by decide) (by decide) (by decide) hr) (fun k hk => (hR k hk).2.1)
    ses := hf.blk h.ses (hno _ _ _ h.ses (by decide) (by decide) (by decide))
    vw := hf.blk h.vw (hno _ _ _ h.vw (by decide) (by decide) (by decide))
    ix := h.ix.fr hf (hno _ _ _ h.ix.1 (by decide) (by decide) (by decide)) (fun b hb hr => by obtain ⟨cs, hcs⟩ := h.ix.2.1.heap hb; exact hno b _ _ hcs (by decide) (by decide) (by decide) hr) }

/-- The session's validity is asked for. -/
theorem FV.valid (h : FV w0 base w S Q M n t f xs v x u l) (hst : STX w0 base w' { S with vv := f, dd := 1 } Q M n t f) (ho : One S.c w w') : FV w0 base w' { S with vv := f, dd := 1 } Q M n t f xs v x u l :=
  h.store hst rfl (ho.mono fun _ _ e => .inr (.inr (.inl e))) (fun _ hk => .inl hk) h.q1

theorem STX.ses (h : STX w0 base w S Q M n t f) {bx : Value} {i : Int} {pv : Option Addr} {dn : Bool} (hs : Ses w xs bx i pv dn) (hbx : base ≤ xs) (hlx : w0.heap.size ≤ xs) (o : One xs w w') : STX w0 base w' S Q M n t f :=
  h.keep o (fun k hk e => by
    have e : k = xs := e
    subst e
    exact h.not_foot hs hbx (by decide) (by decide) (by decide) (by decide) (by decide) (by decide) hk) (fun v l ho b hb e => ho.blk_ne hs (by decide) (by rw [← e]; exact hb)) (fun k e => by have e : k = xs := e; subst e; exact hlx)

set_option maxRecDepth 100000 in
set_option maxHeartbeats 1200000 in
theorem choose_new (nN fN : Nat) (hfN : fN < 4294967296) (OB : Nat) (c : Cmd) (hm : c.m = inboxS) (hs : sameB inboxS inboxS = true) (W : World) (h : STX w0 base W S Qs.none [] (nN : Int) t (fN : Int)) (hx : Ses W xs (.pointer (some ⟨S.s, 0, none⟩)) 0 none false) (hbx : base ≤ xs) (hlx : w0.heap.size ≤ xs) (hT : Tabs w0) (hb : Blk W OB 50 #[.slice none 0 0]) (hbase : base ≤ OB) (hOl : w0.heap.size ≤ OB) (bs : Nat) (hbs : bs ≤ W.heap.size) :
    Calls Tryz.prog 67 #[.pointer (some ⟨xs, 0, none⟩), c.val, addV OB] W fun e W' => ∃ tx vo lo, e = .returned (.agg #[.int .i64 0, .string tx]) ∧ Blk W' OB 50 #[vo] ∧ Own rspE 53 bs W' vo lo ∧ lo.length ≤ 50000 ∧ Fr (fun k => k = OB ∨ k = xs ∨ S.foot Qs.none k) W W' ∧
      ∃ b v x u, FV w0 base W' { S with vv := (fN : Int), dd := 1 } (Qs.none.add 0 b) [] (nN : Int) t (fN : Int) xs v x u [] := by
  have hnN : nN < 4294967296 := by have := h.n1; omega
  obtain ⟨WA, hWA⟩ : ∃ WA, WA = (W.alloc (.cells #[.string c.t, .int .i64 c.k, .string c.m, .slice c.sA c.sn c.sc, .int .i64 c.it, .int .i64 c.mo, .bool c.si, .int .u8 c.fl, .slice c.dA c.dn c.dc] 47)).alloc (.cells #[.int .i64 0, .string ⟨#[]⟩] 108) := ⟨_, rfl⟩
  have nA : New W WA := hWA ▸ ((New.refl W).alloc _).alloc _
  have cA : Blk WA W.heap.size 47 #[.string c.t, .int .i64 c.k, .string c.m, .slice c.sA c.sn c.sc, .int .i64 c.it, .int .i64 c.mo, .bool c.si, .int .u8 c.fl, .slice c.dA c.dn c.dc] := hWA ▸ (Blk.new _ _ _).alloc _
  have rA : Blk WA (W.heap.size + 1) 108 #[.int .i64 0, .string ⟨#[]⟩] := hWA ▸ Blk.new1 _ _ _ _
  rw [hm] at hWA cA
  have hA := h.more nA
  have xA := nA.blk hx
  have bA := nA.blk hb
  have HL := Lib.hid (leave_none hA xA (by omega) (by omega) (by simp [Qs.none]))
  have hWb := h.hb
  have hW0 := h.new.size
  have H := Lib.hid h
  clear h
  go_enter Tryz.func67, Tryz.ntmps67
  go_wp2_with fail
  rw [← hWA]
  clear hWA
  refine HL.out.mono ?_
  rintro e w1 ⟨rfl, x1, o1⟩
  have h1 := hA.ses xA hbx hlx o1
  have c1 := o1.blk cA (cA.ne_ xA (by decide))
  have r1 := o1.blk rA (rA.ne_ xA (by decide))
  have b1 := o1.blk bA (bA.ne_ xA (by decide))
  have k2 : w1.cell? ⟨W.heap.size, 2, none⟩ = some (.string inboxS) := c1.cell 2
  have F1 : Fr (fun k => k = xs ∨ S.foot Qs.none k) W w1 := Fr.trans (New.to nA) (o1.mono fun _ _ e => .inl e)
  have HF1 := Lib.hid F1
  have HSM := Lib.hid (same_any inboxS inboxS (by decide) (by decide) w1)
  rw [hs] at HSM
  clear hA xA cA rA bA nA o1 F1
  go_wp2_with fail
  refine HSM.out.mono ?_
  rintro e w2 ⟨rfl, n2⟩
  have h2 := h1.more n2
  have x2 := n2.blk x1
  have c2 := n2.blk c1
  have r2 := n2.blk r1
  have b2 := n2.blk b1
  have HEN := Lib.hid (enter_new h2 x2 hbx hlx)
  have N2 := Lib.hid n2
  have hfb : ¬ S.foot Qs.none OB := h2.not_foot b2 hbase (by decide) (by decide) (by decide) (by decide) (by decide) (by decide)
  have hfr : ¬ S.foot Qs.none (W.heap.size + 1) := h2.not_foot r2 (by omega) (by decide) (by decide) (by decide) (by decide) (by decide) (by decide)
  clear h1 x1 c1 r1 b1 k2 n2 c2
  go_wp2_with fail
  refine HEN.out.mono ?_
  rintro e w3 ⟨rfl, b, v, x, u, V3, f3⟩
  have r3 := f3.blk r2 (by rintro (e | e); exact r2.ne_ x2 (by decide) e; exact hfr e)
  have b3 := f3.blk b2 (by rintro (e | e); exact b2.ne_ x2 (by decide) e; exact hfb e)
  have HF3 := Lib.hid f3
  have k0 : w3.cell? ⟨xs, 0, none⟩ = some (.pointer (some ⟨S.s, 0, none⟩)) := V3.ses.cell 0
  have k2 : w3.cell? ⟨xs, 2, none⟩ = some (.pointer (some ⟨v, 0, none⟩)) := V3.ses.cell 2
  have HV3 := Lib.hid V3
  have B3 := Lib.hid b3
  have R3 := Lib.hid r3
  clear V3 f3 h2 x2 r2 b2 b3 r3
  go_wp2_with fail
  go_region_held3 (fun W => W.cell? ⟨xs, 0, none⟩ = some (.pointer (some ⟨S.s, 0, none⟩)) ∧ W.cell? ⟨xs, 2, none⟩ = some (.pointer (some ⟨v, 0, none⟩))) (first | go_keep | (refine ⟨?_, ?_⟩ <;> assumption)) ((first
    | (go_at_call 96
       refine (vlen_any (HV3.out.new (by repeat' first | exact New.refl _ | assumption | apply Fr.alloc | apply Fr.drewN | apply Fr.drew)).vw (HV3.out.new (by repeat' first | exact New.refl _ | assumption | apply Fr.alloc | apply Fr.drewN | apply Fr.drew)).ix).mono ?_
       rintro e w4 ⟨rfl, rfl⟩)
    | (go_at_call 95
       refine (count_zero _ _).mono ?_
       rintro e w5 ⟨rfl, m5⟩
       have n5 : New w3 w5 := Fr.trans (by repeat' first | exact New.refl _ | assumption | apply Fr.alloc | apply Fr.drewN | apply Fr.drew) m5
       have V5 := HV3.out.new n5
       have p0 : w5.cell? ⟨xs, 0, none⟩ = some (.pointer (some ⟨S.s, 0, none⟩)) := V5.ses.cell 0
       have p2 : w5.cell? ⟨xs, 2, none⟩ = some (.pointer (some ⟨v, 0, none⟩)) := V5.ses.cell 2
       clear V5 m5)
    | (go_at_call 97
       refine (svalid_any (HV3.out.new n5).st).mono ?_
       rintro e w7 ⟨rfl, st7, o7⟩
       have V7 := (HV3.out.new n5).valid st7 o7
       have HV7 := Lib.hid V7
       have r0 : w7.cell? ⟨xs, 0, none⟩ = some (.pointer (some ⟨S.s, 0, none⟩)) := V7.ses.cell 0
       have r2 : w7.cell? ⟨xs, 2, none⟩ = some (.pointer (some ⟨v, 0, none⟩)) := V7.ses.cell 2
       have HO7 := Lib.hid o7
       have n7 := New.refl w7
       clear V7 st7 o7)
    | (go_at_call 93
       have hI := info_some ⟨#[85, 73, 68, 86, 65, 76, 73, 68, 73, 84, 89]⟩ ⟨#[118, 97, 108, 105, 100]⟩ (by decide) (by decide) fN hfN w7 (hT.new HV7.out.st.new)
       with_reducible refine hI.mono ?_
       rintro e w8 ⟨sw8, rfl, mw8⟩
       have HV8' := HV7.out.new mw8
       have HV8 := Lib.hid HV8'
       have Mw8 := Lib.hid mw8
       have s0w8 : w8.cell? ⟨xs, 0, none⟩ = some (.pointer (some ⟨S.s, 0, none⟩)) := HV8'.ses.cell 0
       have s2w8 : w8.cell? ⟨xs, 2, none⟩ = some (.pointer (some ⟨v, 0, none⟩)) := HV8'.ses.cell 2
       clear HV8' mw8 hI)
    | (go_at_call 21
       have hN := snext_any HV8.out.st
       with_reducible refine hN.mono ?_
       rintro e w9 ⟨rfl, rfl⟩)
    | (go_at_call 93
       have hI := info_some ⟨#[85, 73, 68, 78, 69, 88, 84]⟩ ⟨#[110, 101, 120, 116]⟩ (by decide) (by decide) nN hnN w8 (hT.new HV8.out.st.new)
       with_reducible refine hI.mono ?_
       rintro e w10 ⟨sw10, rfl, mw10⟩
       have HV10' := HV8.out.new mw10
       have HV10 := Lib.hid HV10'
       have Mw10 := Lib.hid mw10
       have s0w10 : w10.cell? ⟨xs, 0, none⟩ = some (.pointer (some ⟨S.s, 0, none⟩)) := HV10'.ses.cell 0
       have s2w10 : w10.cell? ⟨xs, 2, none⟩ = some (.pointer (some ⟨v, 0, none⟩)) := HV10'.ses.cell 2
       clear HV10' mw10 hI)
    | (go_at_call 39
       have hrd := five_row sw8 sw10 w10
       have N10 : New w7 (w10.alloc (.cells #[.int .i64 5, .int .u32 0, .string ⟨#[]⟩, .int .i64 0, .string ⟨#[]⟩, .int .i64 0, .int .u8 0, .int .u32 0, .int .u32 0, .slice none 0 0, .int .i64 1, .int .u32 0, .string ⟨#[]⟩, .int .i64 0, .string ⟨#[]⟩, .int .i64 0, .int .u8 0, .int .u32 0, .int .u32 0, .slice none 0 0, .int .i64 2, .int .u32 0, .string ⟨#[]⟩, .int .i64 0, .string ⟨#[]⟩, .int .i64 0, .int .u8 0, .int .u32 0, .int .u32 0, .slice none 0 0, .int .i64 6, .int .u32 0, .string ⟨#[]⟩, .int .i64 0, .string sw8, .int .i64 0, .int .u8 0, .int .u32 0, .int .u32 0, .slice none 0 0, .int .i64 6, .int .u32 0, .string ⟨#[]⟩, .int .i64 0, .string sw10, .int .i64 0, .int .u8 0, .int .u32 0, .int .u32 0, .slice none 0 0] 53)) := (Mw8.out.trans Mw10.out).alloc _
       have bX := N10.blk (HO7.out.blk (n5.blk B3.out) (fun e => by
         have e : OB = S.c := e
         exact (n5.blk B3.out).ne_ (HV3.out.new n5).st.ctr (by decide) e))
       have VX := HV10.out.new ((New.refl w10).alloc (.cells #[.int .i64 5, .int .u32 0, .string ⟨#[]⟩, .int .i64 0, .string ⟨#[]⟩, .int .i64 0, .int .u8 0, .int .u32 0, .int .u32 0, .slice none 0 0, .int .i64 1, .int .u32 0, .string ⟨#[]⟩, .int .i64 0, .string ⟨#[]⟩, .int .i64 0, .int .u8 0, .int .u32 0, .int .u32 0, .slice none 0 0, .int .i64 2, .int .u32 0, .string ⟨#[]⟩, .int .i64 0, .string ⟨#[]⟩, .int .i64 0, .int .u8 0, .int .u32 0, .int .u32 0, .slice none 0 0, .int .i64 6, .int .u32 0, .string ⟨#[]⟩, .int .i64 0, .string sw8, .int .i64 0, .int .u8 0, .int .u32 0, .int .u32 0, .slice none 0 0, .int .i64 6, .int .u32 0, .string ⟨#[]⟩, .int .i64 0, .string sw10, .int .i64 0, .int .u8 0, .int .u32 0, .int .u32 0, .slice none 0 0] 53))
       have hsX : bs ≤ (w10.alloc (.cells #[.int .i64 5, .int .u32 0, .string ⟨#[]⟩, .int .i64 0, .string ⟨#[]⟩, .int .i64 0, .int .u8 0, .int .u32 0, .int .u32 0, .slice none 0 0, .int .i64 1, .int .u32 0, .string ⟨#[]⟩, .int .i64 0, .string ⟨#[]⟩, .int .i64 0, .int .u8 0, .int .u32 0, .int .u32 0, .slice none 0 0, .int .i64 2, .int .u32 0, .string ⟨#[]⟩, .int .i64 0, .string ⟨#[]⟩, .int .i64 0, .int .u8 0, .int .u32 0, .int .u32 0, .slice none 0 0, .int .i64 6, .int .u32 0, .string ⟨#[]⟩, .int .i64 0, .string sw8, .int .i64 0, .int .u8 0, .int .u32 0, .int .u32 0, .slice none 0 0, .int .i64 6, .int .u32 0, .string ⟨#[]⟩, .int .i64 0, .string sw10, .int .i64 0, .int .u8 0, .int .u32 0, .int .u32 0, .slice none 0 0] 53)).heap.size := by
         have := HF1.out.size; have := N2.out.size; have := HF3.out.size; have := n5.size; have := HO7.out.size; have := N10.size; omega
       refine (add_rsp OB bs (.slice (some ⟨w10.heap.size, 0, none⟩) 5 5) (.slice none 0 0) [] (fiveR sw8 sw10) _ bX (Own.nil _ _ _ _) hrd (by simp) hsX).mono ?_
       rintro e w11 ⟨rfl, vo, hb11, ho11, f11, _⟩
       have f11' : One OB (w10.alloc (.cells #[.int .i64 5, .int .u32 0, .string ⟨#[]⟩, .int .i64 0, .string ⟨#[]⟩, .int .i64 0, .int .u8 0, .int .u32 0, .int .u32 0, .slice none 0 0, .int .i64 1, .int .u32 0, .string ⟨#[]⟩, .int .i64 0, .string ⟨#[]⟩, .int .i64 0, .int .u8 0, .int .u32 0, .int .u32 0, .slice none 0 0, .int .i64 2, .int .u32 0, .string ⟨#[]⟩, .int .i64 0, .string ⟨#[]⟩, .int .i64 0, .int .u8 0, .int .u32 0, .int .u32 0, .slice none 0 0, .int .i64 6, .int .u32 0, .string ⟨#[]⟩, .int .i64 0, .string sw8, .int .i64 0, .int .u8 0, .int .u32 0, .int .u32 0, .slice none 0 0, .int .i64 6, .int .u32 0, .string ⟨#[]⟩, .int .i64 0, .string sw10, .int .i64 0, .int .u8 0, .int .u32 0, .int .u32 0, .slice none 0 0] 53)) w11 := f11.mono fun k _ hk => by rcases hk with hk | hk; exact hk; cases hk
       have V11 := VX.apart f11' (fun k e => by have e : k = OB := e; subst e; exact ⟨hbase, hOl, _, .inl bX⟩)
       have u0 : w11.cell? ⟨xs, 0, none⟩ = some (.pointer (some ⟨S.s, 0, none⟩)) := V11.ses.cell 0
       have u2 : w11.cell? ⟨xs, 2, none⟩ = some (.pointer (some ⟨v, 0, none⟩)) := V11.ses.cell 2
       have r11 := f11'.blk (N10.blk (HO7.out.blk (n5.blk R3.out) (fun e => by
         have e : W.heap.size + 1 = S.c := e
         exact (n5.blk R3.out).ne_ (HV3.out.new n5).st.ctr (by decide) e))) (R3.out.ne_ B3.out (by decide))
       have HV11 := Lib.hid V11
       have HB11 := Lib.hid hb11
       have HO11 := Lib.hid ho11
       have HR11 := Lib.hid r11
       have HF11 := Lib.hid ((N10.mono (T := fun k => k = OB) fun _ _ h => h.elim).trans f11')
       clear hrd bX VX V11 hb11 ho11 f11 f11' r11 N10)
    | fail))
  have t0 : w11.cell? ⟨W.heap.size + 1, 0, none⟩ = some (.int .i64 0) := HR11.out.cell 0
  have t1 : w11.cell? ⟨W.heap.size + 1, 1, none⟩ = some (.string ⟨#[]⟩) := HR11.out.cell 1
  have tf := HR11.out.froz
  go_wp2
  have hR := HR11.out.over2 (.int .i64 0) (.string ⟨#[91, 82, 69, 65, 68, 45, 87, 82, 73, 84, 69, 93, 32, 83, 69, 76, 69, 67, 84, 32, 99, 111, 109, 112, 108, 101, 116, 101, 100]⟩)
  have hO := One.over2 w11 (W.heap.size + 1) (.int .i64 0) (.string ⟨#[91, 82, 69, 65, 68, 45, 87, 82, 73, 84, 69, 93, 32, 83, 69, 76, 69, 67, 84, 32, 99, 111, 109, 112, 108, 101, 116, 101, 100]⟩)
  have V12 := HV11.out.apart hO (fun k e => by have e : k = W.heap.size + 1 := e; subst e; exact ⟨by omega, by omega, _, .inr (.inr HR11.out)⟩)
  have hG : Fr (fun k => k = OB ∨ k = xs ∨ S.foot Qs.none k) W w11 :=
    Fr.trans (Fr.trans (Fr.trans (Fr.trans (Fr.trans (HF1.out.mono fun _ _ h => .inr h) (New.to N2.out)) (HF3.out.mono fun _ _ h => .inr h)) (New.to n5)) (HO7.out.mono fun k _ e => .inr (.inr (.inr (.inr (.inl e)))))) (HF11.out.mono fun k _ e => .inl e)
  have hOB := hb.lt
  refine bodyPost_ret (results_cell1 rfl _ _ rfl (loadOut hR)) rfl ⟨_, vo, fiveR sw8 sw10, rfl, hO.blk HB11.out (by omega), HO11.out.fr hO (fun g hg e => HO11.out.blk_ne HR11.out (by decide) (by rw [← (show g = W.heap.size + 1 from e)]; exact hg)), by simp, Fr.trans' hG hO (fun k hk e => by omega), b, v, x, u, V12⟩
end
end Go.Proofs.YtliimglbbiebiaaGreatDoor
end

section
/- exec: APPEND of the only subscriber. -/
namespace Go.Proofs.YtliimglbbiebiaaGreatDoor
open Go.RowKit Go.Maps

section
variable {w0 w w' : World} {base : Nat} {S : Sx} {Q : Qs} {M : List Msg} {t : Int} {xs v x : Nat} {u : Value} {l : List Int}

theorem told_foot {Q : Qs} {ev : Ev} {v' : Int → Value} {S : Sx} {u' : Value} (hst : Stays w S.u u') (hv : ∀ i ∈ Q.ids, Stays w (Q.v i) (v' i)) {k : Nat} (hk : Sx.foot { S with u := u' } (Q.told (fun _ => true) ev v') k) : S.foot Q k ∨ w.heap.size ≤ k := by
  rcases hk with hk | hk | hk | hk | hk | hk | ⟨i, hi, hk | hk⟩
  · exact .inl (.inl hk)
  · exact .inl (.inr (.inl hk))
  · exact .inl (.inr (.inr (.inl hk)))
  · exact .inl (.inr (.inr (.inr (.inl hk))))
  · rcases hst with e | ⟨b, e, hb⟩
    · exact .inl (.inr (.inr (.inr (.inr (.inl (by rw [← e]; exact hk))))))
    · have hk : u'.ownBlock = some k := hk
      rw [e] at hk; injection hk with hk; exact .inr (by omega)
  · exact .inl (.inr (.inr (.inr (.inr (.inr (.inl hk))))))
  · exact .inl (.inr (.inr (.inr (.inr (.inr (.inr ⟨i, hi, .inl hk⟩))))))
  · rcases hv i hi with e | ⟨b, e, hb⟩
    · exact .inl (.inr (.inr (.inr (.inr (.inr (.inr ⟨i, hi, .inr (by rw [← e]; exact hk)⟩))))))
    · have hk : (v' i).ownBlock = some k := hk
      rw [e] at hk; injection hk with hk; exact .inr (by omega)

set_option maxRecDepth 100000 in
set_option maxHeartbeats 1200000 in
theorem append_ok (nN fN : Nat) (hfN : fN < 4294967296) (OB : Nat) (c : Cmd) (hm : c.m = inboxS) (hs : sameB inboxS inboxS = true) (W : World) (h : FV w0 base W S Q M (nN : Int) t (fN : Int) xs v x u (M.map Msg.uid)) (hq : Q.l 0 = [])
    (hcap : (M.length : Int) < S.cap) (hnN : nN < 4294967295) (hf0 : 0 ≤ c.fl ∧ c.fl ≤ 31) (body : List Int) (hbd : Rd (intE .u8) w0 (.slice c.dA c.dn c.dc) body) (hbl : body.length ≤ 65536)
    (hT : Tabs w0) (hb : Blk W OB 50 #[.slice none 0 0]) (hbase : base ≤ OB) (hOl : w0.heap.size ≤ OB) (bs : Nat) (hbs : bs ≤ W.heap.size) (hML : M.length ≤ 4000) :
    Calls Tryz.prog 68 #[.pointer (some ⟨xs, 0, none⟩), c.val, addV OB] W fun e W' => ∃ tx vo lo, e = .returned (.agg #[.int .i64 0, .string tx]) ∧ Blk W' OB 50 #[vo] ∧ Own rspE 53 bs W' vo lo ∧ lo.length = 1 ∧ Fr (fun k => k = OB ∨ S.foot Q k ∨ k = v ∨ k = x ∨ u.ownBlock = some k) W W' ∧
      ∃ S' Q' u', S'.s = S.s ∧ S'.cap = S.cap ∧ Q'.l 0 = [] ∧ FV w0 base W' S' Q' (M ++ [(⟨(nN : Int), c.fl, body⟩ : Msg)]) ((nN + 1 : Nat) : Int) (t + 1) (fN : Int) xs v x u' ((M ++ [(⟨(nN : Int), c.fl, body⟩ : Msg)]).map Msg.uid) := by
  obtain ⟨WA, hWA⟩ : ∃ WA, WA = (W.alloc (.cells #[.string c.t, .int .i64 c.k, .string c.m, .slice c.sA c.sn c.sc, .int .i64 c.it, .int .i64 c.mo, .bool c.si, .int .u8 c.fl, .slice c.dA c.dn c.dc] 47)).alloc (.cells #[.int .i64 0, .string ⟨#[]⟩] 108) := ⟨_, rfl⟩
  have nA : New W WA := hWA ▸ ((New.refl W).alloc _).alloc _
  have cA : Blk WA W.heap.size 47 #[.string c.t, .int .i64 c.k, .string c.m, .slice c.sA c.sn c.sc, .int .i64 c.it, .int .i64 c.mo, .bool c.si, .int .u8 c.fl, .slice c.dA c.dn c.dc] := hWA ▸ (Blk.new _ _ _).alloc _
  have rA : Blk WA (W.heap.size + 1) 108 #[.int .i64 0, .string ⟨#[]⟩] := hWA ▸ Blk.new1 _ _ _ _
  rw [hm] at hWA cA
  have k2 : WA.cell? ⟨W.heap.size, 2, none⟩ = some (.string inboxS) := cA.cell 2
  have hWb := h.st.hb
  have hW0 := h.st.new.size
  have HSM := Lib.hid (same_any inboxS inboxS (by decide) (by decide) WA)
  rw [hs] at HSM
  have H := Lib.hid h
  have HQ := Lib.hid hq
  have HBD := Lib.hid hbd
  have bA := nA.blk hb
  clear h hq hbd
  go_enter Tryz.func68, Tryz.ntmps68
  go_wp2_with fail
  rw [← hWA]
  clear hWA
  refine HSM.out.mono ?_
  rintro e w1 ⟨rfl, n1⟩
  have c1 := n1.blk cA
  have r1 := n1.blk rA
  have b1 := n1.blk bA
  have V1 := H.out.new (nA.trans n1)
  have N01 := Lib.hid (nA.trans n1)
  clear cA rA bA nA n1 k2 H
  go_wp2_with fail
  have x0 : w1.cell? ⟨xs, 0, none⟩ = some (.pointer (some ⟨S.s, 0, none⟩)) := V1.ses.cell 0
  have x7 : w1.cell? ⟨W.heap.size, 7, none⟩ = some (.int .u8 c.fl) := c1.cell 7
  have x8 : w1.cell? ⟨W.heap.size, 8, none⟩ = some (.slice c.dA c.dn c.dc) := c1.cell 8
  have HV1 := Lib.hid V1
  have C1 := Lib.hid c1
  have R1 := Lib.hid r1
  have B1 := Lib.hid b1
  clear V1 c1 r1 b1
  have hfar : ∀ b, Value.ownBlock (.slice c.dA c.dn c.dc) = some b → body ≠ [] → ¬ S.foot Q b := fun b hb hne => HV1.out.st.not_lo (HBD.out.cell_lt hb hne)
  have hqs : ∀ i ∈ Q.ids, (Q.l i).length ≤ 90000 := fun i hi => by
    rw [HV1.out.q1] at hi
    have : i = 0 := by simpa using hi
    subst this
    rw [HQ.out]; simp
  have HFAR := Lib.hid hfar
  have HQS := Lib.hid hqs
  have HF0 := Lib.hid hf0
  clear hfar hqs hf0
  go_region_held3 (fun W' => W'.cell? ⟨xs, 0, none⟩ = some (.pointer (some ⟨S.s, 0, none⟩)) ∧ W'.cell? ⟨W.heap.size, 7, none⟩ = some (.int .u8 c.fl) ∧ W'.cell? ⟨W.heap.size, 8, none⟩ = some (.slice c.dA c.dn c.dc)) (first | go_keep | (refine ⟨?_, ?_, ?_⟩ <;> assumption)) ((first
    | (go_at_call 98
       refine (sappend_any (HV1.out.st.more (by repeat' first | exact New.refl _ | apply Fr.alloc | apply Fr.drewN | apply Fr.drew)) hcap (by omega) HQS.out c.fl HF0.out c.dA c.dn c.dc body (HBD.out.new (HV1.out.st.new.trans (by repeat' first | exact New.refl _ | apply Fr.alloc | apply Fr.drewN | apply Fr.drew))) hbl HFAR.out).mono ?_
       rintro e w2 ⟨rfl, u2, v2, st2, f2, sy2, sv2⟩
       have F2 : Fr (S.foot Q) w1 w2 := Fr.trans (New.to (by repeat' first | exact New.refl _ | apply Fr.alloc | apply Fr.drewN | apply Fr.drew)) f2
       have V2 := HV1.out.store st2 rfl F2 (fun k hk => told_foot (w := w1) sy2 sv2 hk) HV1.out.q1
       have c2 := F2.blk C1.out (HV1.out.st.not_foot C1.out (by omega) (by decide) (by decide) (by decide) (by decide) (by decide) (by decide))
       have r2 := F2.blk R1.out (HV1.out.st.not_foot R1.out (by omega) (by decide) (by decide) (by decide) (by decide) (by decide) (by decide))
       have b2 := F2.blk B1.out (HV1.out.st.not_foot B1.out hbase (by decide) (by decide) (by decide) (by decide) (by decide) (by decide))
       have p0 : w2.cell? ⟨xs, 0, none⟩ = some (.pointer (some ⟨S.s, 0, none⟩)) := V2.ses.cell 0
       have p7 : w2.cell? ⟨W.heap.size, 7, none⟩ = some (.int .u8 c.fl) := c2.cell 7
       have p8 : w2.cell? ⟨W.heap.size, 8, none⟩ = some (.slice c.dA c.dn c.dc) := c2.cell 8
       have HF2 := Lib.hid F2
       have HTF := Lib.hid (fun k (hk : Sx.foot { S with u := u2 } (Q.told (fun _ => true) ⟨1, (nN : Int), 0⟩ v2) k) => told_foot (w := w1) sy2 sv2 hk)
       have HV2 := Lib.hid V2
       have R2 := Lib.hid r2
       have B2 := Lib.hid b2
       clear st2 f2 F2 sy2 sv2 V2 c2 r2 b2)
    | fail))
  have hl0 : (Q.told (fun _ => true) ⟨1, (nN : Int), 0⟩ v2).l 0 = [⟨1, (nN : Int), 0⟩] := by
    show (if true = true then Q.l 0 ++ [_] else Q.l 0) = _
    rw [HQ.out]; rfl
  have hn1 : (nN : Int) ≠ 0 := by have := HV1.out.st.n1; omega
  have HFL := Lib.hid (flush_one HV2.out (nN : Int) hl0 (by rw [List.length_map]; omega) hn1 (fun y hy => by
    obtain ⟨m, hm, rfl⟩ := List.mem_map.1 hy
    exact HV1.out.st.below m hm))
  clear hl0 hn1
  go_wp2_with fail
  refine HFL.out.mono ?_
  rintro e w3 ⟨o3, rfl, ho3, v3, u3, V3, f3⟩
  have hno : ∀ g e cs, Blk w2 g e cs → base ≤ g → e = 50 ∨ e = 108 → ¬ (Sx.foot { S with u := u2 } (Q.told (fun _ => true) ⟨1, (nN : Int), 0⟩ v2) g ∨ g = v ∨ g = x ∨ u.ownBlock = some g) := fun g e cs hb hg he hk => by
    have n1 : e ≠ 111 := by rcases he with rfl | rfl <;> decide
    have n2 : e ≠ 163 := by rcases he with rfl | rfl <;> decide
    have n3 : e ≠ 28 := by rcases he with rfl | rfl <;> decide
    rcases hk with hk | hk | hk | hk
    · rcases he with rfl | rfl
      · exact HV2.out.st.not_foot hb hg (by decide) (by decide) (by decide) (by decide) (by decide) (by decide) hk
      · exact HV2.out.st.not_foot hb hg (by decide) (by decide) (by decide) (by decide) (by decide) (by decide) hk
    · exact hb.ne_ HV2.out.vw n1 hk
    · exact hb.ne_ HV2.out.ix.1 n2 hk
    · obtain ⟨cs', hcs'⟩ := HV2.out.ix.2.1.heap hk
      exact hb.ne_ hcs' n3 rfl
  have b3 := f3.blk B2.out (hno _ _ _ B2.out hbase (.inl rfl))
  have r3 := f3.blk R2.out (hno _ _ _ R2.out (by omega) (.inr rfl))
  have hs3 : bs ≤ w3.heap.size := by have := N01.out.size; have := HF2.out.size; have := f3.size; omega
  have HAD := Lib.hid (add_rsp OB bs o3 (.slice none 0 0) [] [existsR ((M.map Msg.uid).length + 1)] w3 b3 (Own.nil _ _ _ _) ho3.rd (by simp) hs3)
  have HV3 := Lib.hid V3
  have B3 := Lib.hid b3
  have R3 := Lib.hid r3
  have HF3 := Lib.hid f3
  clear V3 b3 r3 f3 ho3 hno hs3
  go_wp2_with fail
  refine HAD.out.mono ?_
  rintro e w4 ⟨rfl, vo, hb4, ho4, f4, _⟩
  have f4' : One OB w3 w4 := f4.mono fun k _ hk => by rcases hk with hk | hk; exact hk; cases hk
  have V4 := HV3.out.apart f4' (fun k e => by have e : k = OB := e; subst e; exact ⟨hbase, hOl, _, .inl B3.out⟩)
  have r4 := f4'.blk R3.out (R3.out.ne_ B3.out (by decide))
  have x0 : w4.cell? ⟨xs, 0, none⟩ = some (.pointer (some ⟨S.s, 0, none⟩)) := V4.ses.cell 0
  have HVA := Lib.hid (svalid_any V4.st)
  have HV4 := Lib.hid V4
  have HB4 := Lib.hid hb4
  have HO4 := Lib.hid ho4
  have HR4 := Lib.hid r4
  have HF4 := Lib.hid f4'
  clear V4 hb4 ho4 r4 f4 f4'
  go_wp2_with fail
  refine HVA.out.mono ?_
  rintro e w5 ⟨rfl, st5, o5⟩
  have V5 := HV4.out.valid st5 o5
  have r5 := o5.blk HR4.out (fun e => HR4.out.ne_ HV4.out.st.ctr (by decide) e)
  have b5 := o5.blk HB4.out (fun e => HB4.out.ne_ HV4.out.st.ctr (by decide) e)
  have ho5 := HO4.out.fr o5 (fun g hg e => HO4.out.blk_ne HV4.out.st.ctr (by decide) (by rw [← (show g = _ from e)]; exact hg))
  have HD := Lib.hid (decimal_any fN hfN w5 (hT.new V5.st.new))
  have d1 := decS_size fN hfN
  have d2 := decS_size nN (by omega)
  have z1 : ByteArray.size ⟨#[91, 65, 80, 80, 69, 78, 68, 85, 73, 68, 32]⟩ = 11 := rfl
  have z2 : ByteArray.size ⟨#[32]⟩ = 1 := rfl
  have z3 : ByteArray.size ⟨#[93, 32, 65, 80, 80, 69, 78, 68, 32, 99, 111, 109, 112, 108, 101, 116, 101, 100]⟩ = 18 := rfl
  have a1 : ¬ 9223372036854775807 < 11 + (decS fN).size := by omega
  have a2 : ¬ 9223372036854775807 < 11 + (decS fN).size + 1 := by omega
  have a3 : ¬ 9223372036854775807 < 11 + (decS fN).size + 1 + (decS nN).size := by omega
  have a4 : ¬ 9223372036854775807 < 11 + (decS fN).size + 1 + (decS nN).size + 18 := by omega
  have HV5 := Lib.hid V5
  have HO5 := Lib.hid ho5
  have HB5 := Lib.hid b5
  have HR5 := Lib.hid r5
  have G5 := Lib.hid o5
  clear V5 r5 b5 ho5 o5 st5 d1 d2
  go_wp2_with fail
  refine HD.out.mono ?_
  rintro e w6 ⟨rfl, n6⟩
  have HD2 := Lib.hid (decimal_any nN (by omega) w6 (hT.new (HV5.out.new n6).st.new))
  go_wp2_with fail
  refine HD2.out.mono ?_
  rintro e w7 ⟨rfl, n7⟩
  go_wp2_with fail
  refine (of_ok _ w7).mono ?_
  rintro e w8 ⟨rfl, n8⟩
  have N8 : New w5 w8 := (n6.trans n7).trans n8
  have r8 := N8.blk HR5.out
  have t0 : w8.cell? ⟨W.heap.size + 1, 0, none⟩ = some (.int .i64 0) := r8.cell 0
  have t1 : w8.cell? ⟨W.heap.size + 1, 1, none⟩ = some (.string ⟨#[]⟩) := r8.cell 1
  have tf := r8.froz
  go_wp2
  obtain ⟨tx, htx⟩ : ∃ tx : ByteArray, ⟨#[91, 65, 80, 80, 69, 78, 68, 85, 73, 68, 32]⟩ ++ decS fN ++ ⟨#[32]⟩ ++ decS nN ++ ⟨#[93, 32, 65, 80, 80, 69, 78, 68, 32, 99, 111, 109, 112, 108, 101, 116, 101, 100]⟩ = tx := ⟨_, rfl⟩
  rw [htx]
  clear htx
  have hR := r8.over2 (.int .i64 0) (.string tx)
  have hO := One.over2 w8 (W.heap.size + 1) (.int .i64 0) (.string tx)
  have V9 := (HV5.out.new N8).apart hO (fun k e => by have e : k = W.heap.size + 1 := e; subst e; exact ⟨by omega, by omega, _, .inr (.inr r8)⟩)
  have hsz1 := N01.out.size
  have hOB := hb.lt
  have g1 : Fr (fun k => k = OB ∨ S.foot Q k ∨ k = v ∨ k = x ∨ u.ownBlock = some k) W w2 := Fr.trans (New.to N01.out) (HF2.out.mono fun _ _ h => .inr (.inl h))
  have g2 := Fr.trans' g1 HF3.out (fun k hk h => by
    rcases h with h | h | h | h
    · rcases HTF.out k h with h | h
      · exact .inr (.inl h)
      · omega
    · exact .inr (.inr (.inl h))
    · exact .inr (.inr (.inr (.inl h)))
    · exact .inr (.inr (.inr (.inr h))))
  have g3 := g2.trans (HF4.out.mono fun _ _ e => .inl e)
  have g4 := g3.trans (G5.out.mono fun k _ e => .inr (.inl (.inr (.inr (.inl e)))))
  have g5 := g4.trans (New.to N8)
  refine bodyPost_ret (results_cell1 rfl _ _ rfl (loadOut hR)) rfl ⟨tx, vo, [existsR ((M.map Msg.uid).length + 1)], rfl, hO.blk (N8.blk HB5.out) (by omega), (HO5.out.new N8).fr hO (fun g hg e => (HO5.out.new N8).blk_ne r8 (by decide) (by rw [← (show g = W.heap.size + 1 from e)]; exact hg)), rfl, Fr.trans' g5 hO (fun k hk e => by omega), { S with u := u2, vv := (fN : Int), dd := 1 }, (Q.told (fun _ => true) ⟨1, (nN : Int), 0⟩ v2).upd 0 v3 [], u3, rfl, rfl, ?_, by rw [List.map_append]; exact V9⟩
  simp [Qs.upd]
end
end Go.Proofs.YtliimglbbiebiaaGreatDoor
end

section
/- exec: APPEND of the only subscriber, refused. -/
namespace Go.Proofs.YtliimglbbiebiaaGreatDoor
open Go.RowKit Go.Maps

section
variable {w0 w w' : World} {base : Nat} {S : Sx} {Q : Qs} {M : List Msg} {n t f : Int} {xs v x : Nat} {u : Value} {l : List Int}
theorem sapp_no (h : STX w0 base w S Q M n t f) (hno : (M.length : Int) = S.cap ∨ (M.length : Int) < S.cap ∧ n = 4294967295) (fl : Int) (hf : fl ≤ 31) (A : Option Addr) (len c : Nat) (hb : len ≤ 65536) :
    Calls Tryz.prog 98 #[.pointer (some ⟨S.s, 0, none⟩), .int .u8 fl, .slice A len c] w fun e w' => ∃ cd : Int, (cd = 5 ∨ cd = 6) ∧ e = .returned (.tuple #[.int .u32 0, .int .i64 cd]) ∧ New w w' := by
  rcases hno with hc | ⟨hc, hn⟩
  · exact (sappend_full h hc fl hf A len c hb).mono fun e w' ⟨h1, h2⟩ => ⟨5, .inl rfl, h1, h2⟩
  · exact (sappend_uid h hc hn fl hf A len c hb).mono fun e w' ⟨h1, h2⟩ => ⟨6, .inr rfl, h1, h2⟩

set_option maxRecDepth 100000 in
set_option maxHeartbeats 1200000 in
theorem append_no (nN fN : Nat) (hfN : fN < 4294967296) (OB : Nat) (c : Cmd) (hm : c.m = inboxS) (hs : sameB inboxS inboxS = true) (W : World) (h : FV w0 base W S Q M (nN : Int) t (fN : Int) xs v x u (M.map Msg.uid)) (hq : Q.l 0 = [])
    (hno : (M.length : Int) = S.cap ∨ (M.length : Int) < S.cap ∧ (nN : Int) = 4294967295) (_hnN : nN ≤ 4294967295) (hf0 : c.fl ≤ 31) (hbl : c.dn ≤ 65536)
    (hT : Tabs w0) (hb : Blk W OB 50 #[.slice none 0 0]) (hbase : base ≤ OB) (hOl : w0.heap.size ≤ OB) (bs : Nat) (hbs : bs ≤ W.heap.size) (hML : M.length ≤ 4000) :
    Calls Tryz.prog 68 #[.pointer (some ⟨xs, 0, none⟩), c.val, addV OB] W fun e W' => ∃ tx vo lo, e = .returned (.agg #[.int .i64 1, .string tx]) ∧ Blk W' OB 50 #[vo] ∧ Own rspE 53 bs W' vo lo ∧ lo = [] ∧ Fr (fun k => k = OB ∨ S.foot Q k ∨ k = v ∨ k = x ∨ u.ownBlock = some k) W W' ∧
      ∃ S' Q', S'.s = S.s ∧ S'.cap = S.cap ∧ Q'.l 0 = [] ∧ FV w0 base W' S' Q' M (nN : Int) t (fN : Int) xs v x u (M.map Msg.uid) := by
  obtain ⟨WA, hWA⟩ : ∃ WA, WA = (W.alloc (.cells #[.string c.t, .int .i64 c.k, .string c.m, .slice c.sA c.sn c.sc, .int .i64 c.it, .int .i64 c.mo, .bool c.si, .int .u8 c.fl, .slice c.dA c.dn c.dc] 47)).alloc (.cells #[.int .i64 0, .string ⟨#[]⟩] 108) := ⟨_, rfl⟩
  have nA : New W WA := hWA ▸ ((New.refl W).alloc _).alloc _
  have cA : Blk WA W.heap.size 47 #[.string c.t, .int .i64 c.k, .string c.m, .slice c.sA c.sn c.sc, .int .i64 c.it, .int .i64 c.mo, .bool c.si, .int .u8 c.fl, .slice c.dA c.dn c.dc] := hWA ▸ (Blk.new _ _ _).alloc _
  have rA : Blk WA (W.heap.size + 1) 108 #[.int .i64 0, .string ⟨#[]⟩] := hWA ▸ Blk.new1 _ _ _ _
  rw [hm] at hWA cA
  have k2 : WA.cell? ⟨W.heap.size, 2, none⟩ = some (.string inboxS) := cA.cell 2
  have hWb := h.st.hb
  have hW0 := h.st.new.size
  have HSM := Lib.hid (same_any inboxS inboxS (by decide) (by decide) WA)
  rw [hs] at HSM
  have H := Lib.hid h
  have HQ := Lib.hid hq
  have HNO := Lib.hid hno
  have bA := nA.blk hb
  clear h hq hno
  go_enter Tryz.func68, Tryz.ntmps68
  go_wp2_with fail
  rw [← hWA]
  clear hWA
  refine HSM.out.mono ?_
  rintro e w1 ⟨rfl, n1⟩
  have c1 := n1.blk cA
  have r1 := n1.blk rA
  have b1 := n1.blk bA
  have V1 := H.out.new (nA.trans n1)
  have N01 := Lib.hid (nA.trans n1)
  clear cA rA bA nA n1 k2 H
  go_wp2_with fail
  have x0 : w1.cell? ⟨xs, 0, none⟩ = some (.pointer (some ⟨S.s, 0, none⟩)) := V1.ses.cell 0
  have x7 : w1.cell? ⟨W.heap.size, 7, none⟩ = some (.int .u8 c.fl) := c1.cell 7
  have x8 : w1.cell? ⟨W.heap.size, 8, none⟩ = some (.slice c.dA c.dn c.dc) := c1.cell 8
  have HV1 := Lib.hid V1
  have C1 := Lib.hid c1
  have R1 := Lib.hid r1
  have B1 := Lib.hid b1
  clear V1 c1 r1 b1
  have HF0 := Lib.hid hf0
  clear hf0
  go_region_held3 (fun W' => W'.cell? ⟨xs, 0, none⟩ = some (.pointer (some ⟨S.s, 0, none⟩)) ∧ W'.cell? ⟨W.heap.size, 7, none⟩ = some (.int .u8 c.fl) ∧ W'.cell? ⟨W.heap.size, 8, none⟩ = some (.slice c.dA c.dn c.dc)) (first | go_keep | (refine ⟨?_, ?_, ?_⟩ <;> assumption)) ((first
    | (go_at_call 98
       refine (sapp_no (HV1.out.st.more (by repeat' first | exact New.refl _ | apply Fr.alloc | apply Fr.drewN | apply Fr.drew)) HNO.out c.fl HF0.out c.dA c.dn c.dc hbl).mono ?_
       rintro e w2 ⟨cd, hcd, rfl, n2⟩
       have F2 : New w1 w2 := Fr.trans (by repeat' first | exact New.refl _ | apply Fr.alloc | apply Fr.drewN | apply Fr.drew) n2
       have V2 := HV1.out.new F2
       have c2 := F2.blk C1.out
       have r2 := F2.blk R1.out
       have b2 := F2.blk B1.out
       have p0 : w2.cell? ⟨xs, 0, none⟩ = some (.pointer (some ⟨S.s, 0, none⟩)) := V2.ses.cell 0
       have p7 : w2.cell? ⟨W.heap.size, 7, none⟩ = some (.int .u8 c.fl) := c2.cell 7
       have p8 : w2.cell? ⟨W.heap.size, 8, none⟩ = some (.slice c.dA c.dn c.dc) := c2.cell 8
       have HF2 := Lib.hid F2
       have HV2 := Lib.hid V2
       have R2 := Lib.hid r2
       have B2 := Lib.hid b2
       have HCD := Lib.hid hcd
       clear n2 F2 V2 c2 r2 b2 hcd)
    | fail))
  have HFL := Lib.hid (flush_empty HV2.out HQ.out (by rw [List.length_map]; omega))
  go_wp2_with fail
  refine HFL.out.mono ?_
  rintro e w3 ⟨rfl, v3, V3, f3⟩
  have hno : ∀ g e cs, Blk w2 g e cs → base ≤ g → e = 50 ∨ e = 108 → ¬ (S.foot Q g ∨ g = v) := fun g e cs hb hg he hk => by
    have n1 : e ≠ 111 := by rcases he with rfl | rfl <;> decide
    rcases hk with hk | hk
    · rcases he with rfl | rfl
      · exact HV2.out.st.not_foot hb hg (by decide) (by decide) (by decide) (by decide) (by decide) (by decide) hk
      · exact HV2.out.st.not_foot hb hg (by decide) (by decide) (by decide) (by decide) (by decide) (by decide) hk
    · exact hb.ne_ HV2.out.vw n1 hk
  have b3 := f3.blk B2.out (hno _ _ _ B2.out hbase (.inl rfl))
  have r3 := f3.blk R2.out (hno _ _ _ R2.out (by omega) (.inr rfl))
  have hs3 : bs ≤ w3.heap.size := by have := N01.out.size; have := HF2.out.size; have := f3.size; omega
  have HAD := Lib.hid (add_rsp OB bs (.slice none 0 0) (.slice none 0 0) [] [] w3 b3 (Own.nil _ _ _ _) (Rd.nil _ _) (by simp) hs3)
  have HV3 := Lib.hid V3
  have B3 := Lib.hid b3
  have R3 := Lib.hid r3
  have HF3 := Lib.hid f3
  clear V3 b3 r3 f3 hno hs3
  go_wp2_with fail
  refine HAD.out.mono ?_
  rintro e w4 ⟨rfl, vo, hb4, ho4, f4, _⟩
  have f4' : One OB w3 w4 := f4.mono fun k _ hk => by rcases hk with hk | hk; exact hk; cases hk
  have V4 := HV3.out.apart f4' (fun k e => by have e : k = OB := e; subst e; exact ⟨hbase, hOl, _, .inl B3.out⟩)
  have r4 := f4'.blk R3.out (R3.out.ne_ B3.out (by decide))
  have x0 : w4.cell? ⟨xs, 0, none⟩ = some (.pointer (some ⟨S.s, 0, none⟩)) := V4.ses.cell 0
  have HVA := Lib.hid (svalid_any V4.st)
  have HV4 := Lib.hid V4
  have HB4 := Lib.hid hb4
  have HO4 := Lib.hid ho4
  have HR4 := Lib.hid r4
  have HF4 := Lib.hid f4'
  clear V4 hb4 ho4 r4 f4 f4'
  go_wp2_with fail
  refine HVA.out.mono ?_
  rintro e w5 ⟨rfl, st5, o5⟩
  have V5 := HV4.out.valid st5 o5
  have r5 := o5.blk HR4.out (fun e => HR4.out.ne_ HV4.out.st.ctr (by decide) e)
  have b5 := o5.blk HB4.out (fun e => HB4.out.ne_ HV4.out.st.ctr (by decide) e)
  have ho5 := HO4.out.fr o5 (fun g hg e => HO4.out.blk_ne HV4.out.st.ctr (by decide) (by rw [← (show g = _ from e)]; exact hg))
  have HD := Lib.hid (decimal_any fN hfN w5 (hT.new V5.st.new))
  have d1 := decS_size fN hfN
  have d2 := decS_size 0 (by omega)
  have z1 : ByteArray.size ⟨#[91, 65, 80, 80, 69, 78, 68, 85, 73, 68, 32]⟩ = 11 := rfl
  have z2 : ByteArray.size ⟨#[32]⟩ = 1 := rfl
  have z3 : ByteArray.size ⟨#[93, 32, 65, 80, 80, 69, 78, 68, 32, 99, 111, 109, 112, 108, 101, 116, 101, 100]⟩ = 18 := rfl
  have a1 : ¬ 9223372036854775807 < 11 + (decS fN).size := by omega
  have a2 : ¬ 9223372036854775807 < 11 + (decS fN).size + 1 := by omega
  have a3 : ¬ 9223372036854775807 < 11 + (decS fN).size + 1 + (decS 0).size := by omega
  have a4 : ¬ 9223372036854775807 < 11 + (decS fN).size + 1 + (decS 0).size + 18 := by omega
  have HV5 := Lib.hid V5
  have HO5 := Lib.hid ho5
  have HB5 := Lib.hid b5
  have HR5 := Lib.hid r5
  have G5 := Lib.hid o5
  clear V5 r5 b5 ho5 o5 st5 d1 d2
  go_wp2_with fail
  refine HD.out.mono ?_
  rintro e w6 ⟨rfl, n6⟩
  have HD2 := Lib.hid (decimal_any 0 (by omega) w6 (hT.new (HV5.out.new n6).st.new))
  go_wp2_with fail
  refine HD2.out.mono ?_
  rintro e w7 ⟨rfl, n7⟩
  go_wp2_with fail
  refine (of_no cd HCD.out _ w7).mono ?_
  rintro e w8 ⟨rfl, n8⟩
  have N8 : New w5 w8 := (n6.trans n7).trans n8
  have r8 := N8.blk HR5.out
  have t0 : w8.cell? ⟨W.heap.size + 1, 0, none⟩ = some (.int .i64 0) := r8.cell 0
  have t1 : w8.cell? ⟨W.heap.size + 1, 1, none⟩ = some (.string ⟨#[]⟩) := r8.cell 1
  have tf := r8.froz
  go_wp2
  have hR := r8.over2 (.int .i64 1) (.string (codeS cd))
  have hO := One.over2 w8 (W.heap.size + 1) (.int .i64 1) (.string (codeS cd))
  have V9 := (HV5.out.new N8).apart hO (fun k e => by have e : k = W.heap.size + 1 := e; subst e; exact ⟨by omega, by omega, _, .inr (.inr r8)⟩)
  have hsz1 := N01.out.size
  have hOB := hb.lt
  have g1 : Fr (fun k => k = OB ∨ S.foot Q k ∨ k = v ∨ k = x ∨ u.ownBlock = some k) W w2 := New.to (N01.out.trans HF2.out)
  have g2 := Fr.trans g1 (HF3.out.mono (fun k hk h => by
    rcases h with h | h
    · exact .inr (.inl h)
    · exact .inr (.inr (.inl h))))
  have g3 := g2.trans (HF4.out.mono fun _ _ e => .inl e)
  have g4 := g3.trans (G5.out.mono fun k _ e => .inr (.inl (.inr (.inr (.inl e)))))
  have g5 := g4.trans (New.to N8)
  refine bodyPost_ret (results_cell1 rfl _ _ rfl (loadOut hR)) rfl ⟨codeS cd, vo, [], rfl, hO.blk (N8.blk HB5.out) (by omega), (HO5.out.new N8).fr hO (fun g hg e => (HO5.out.new N8).blk_ne r8 (by decide) (by rw [← (show g = W.heap.size + 1 from e)]; exact hg)), rfl, Fr.trans' g5 hO (fun k hk e => by omega), { S with vv := (fN : Int), dd := 1 }, Q.upd 0 v3 [], rfl, rfl, ?_, V9⟩
  simp [Qs.upd]
end
end Go.Proofs.YtliimglbbiebiaaGreatDoor
end

