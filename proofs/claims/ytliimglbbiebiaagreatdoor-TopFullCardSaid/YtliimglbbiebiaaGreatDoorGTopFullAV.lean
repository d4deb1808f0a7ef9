/- A part of the proof: Full10, Plan, Tok1, Frame2, Frame3. -/
import Derived.Test.YtliimglbbiebiaaGreatDoorGTopFullAU
import Derived.Test.YtliimglbbiebiaaGreatDoorGTopFullAR
import Derived.Test.YtliimglbbiebiaaGreatDoorGTopFullAT
import Derived.Laws.IdiomStrings
import Derived.Test.YtliimglbbiebiaaGreatDoorGTopFullAQ
import Derived.Lib.SlBytesConst

section
/- exec: Do at SELECT, at APPEND. -/
namespace Go.Proofs.YtliimglbbiebiaaGreatDoor
open Go.RowKit Go.Maps

section
variable {w0 w w' : World} {base : Nat} {S : Sx} {Q : Qs} {M : List Msg} {n t f : Int} {xs v x : Nat} {u : Value} {l : List Int}
theorem FV.own (h : FV w0 base w S Q M n t f xs v x u l) {bs : Nat} {vo : Value} {lo : List Rsp} (hb : base ≤ bs) (h0 : w0.heap.size ≤ bs) (ho : Own rspE 53 bs w vo lo) (hf : Fr (fun k => vo.ownBlock = some k) w w') : FV w0 base w' S Q M n t f xs v x u l :=
  h.apart hf fun k hk => ⟨Nat.le_trans hb (ho.block hk).1, Nat.le_trans h0 (ho.block hk).1, by obtain ⟨cs, hcs⟩ := ho.heap hk; exact ⟨cs, .inr (.inl hcs)⟩⟩
theorem okI5 : iKeys.ok 5 := by show (Lit.int .i64 5).wf = true; decide
theorem okI6 : iKeys.ok 6 := by show (Lit.int .i64 6).wf = true; decide
theorem same_inbox : sameB inboxS inboxS = true := by decide

theorem do_select (nN fN : Nat) (hfN : fN < 4294967296) (tg : ByteArray) (htg : tagS tg = true) (hts : tg.size ≤ 1000000) (h : STX w0 base w S Qs.none [] (nN : Int) t (fN : Int)) (hx : Ses w xs (.pointer (some ⟨S.s, 0, none⟩)) 0 none false) (hbx : base ≤ xs) (hlx : w0.heap.size ≤ xs) (hT : Tabs w0) :
    Calls Tryz.prog 17 #[.pointer (some ⟨xs, 0, none⟩), cmdV tg 5 inboxS 0 (.slice none 0 0)] w fun e w' => ∃ vr lr, e = .returned vr ∧ Own rspE 53 w.heap.size w' vr lr ∧ Fr (fun k => k = xs ∨ S.foot Qs.none k) w w' ∧ ∃ b v x u, FV w0 base w' { S with vv := (fN : Int), dd := 1 } (Qs.none.add 0 b) [] (nN : Int) t (fN : Int) xs v x u [] := by
  have hb := h.hb
  have h0 := h.new.size
  refine (xdo_any xs (.pointer (some ⟨S.s, 0, none⟩)) 0 none ⟨tg, 5, inboxS, none, 0, 0, 0, 0, false, 0, none, 0, 0⟩ 67 false (fun k => k = xs ∨ S.foot Qs.none k)
    (fun _ _ _ W' => ∃ b v x u, FV w0 base W' { S with vv := (fN : Int), dd := 1 } (Qs.none.add 0 b) [] (nN : Int) t (fN : Int) xs v x u []) w (enters_of Tryz.func67 (by kernel_rfl) rfl) hx rfl okI5 (by simp)
    (fun W hW => valid_select tg htg hts W (hT.new (h.new.trans hW))) ?_ (fun k hk => ?_) (fun st tx lr vr A B ⟨b, v, x, u, hv⟩ ho hf => ⟨b, v, x, u, hv.own hb h0 ho hf⟩)).mono ?_
  · intro OB W hW hOB hbk
    refine (choose_new nN fN hfN OB ⟨tg, 5, inboxS, none, 0, 0, 0, 0, false, 0, none, 0, 0⟩ rfl same_inbox W (h.more hW) (hW.blk hx) hbx hlx hT hbk (by omega) (by omega) w.heap.size hW.size).mono ?_
    rintro e W' ⟨tx, vo, lo, rfl, h1, h2, h3, h4, h5⟩
    exact ⟨0, tx, vo, lo, rfl, h1, h2, h3, h4, h5⟩
  · rcases hk with rfl | hk
    · exact hx.lt
    · exact h.foot_lt hk
  · rintro e w' ⟨st, tx, vr, lr, rfl, ho, hf, hX⟩
    exact ⟨vr, _, rfl, ho, hf, hX⟩

/-- What APPEND may turn. -/
def FV.ft (S : Sx) (Q : Qs) (v x : Nat) (u : Value) (k : Nat) : Prop := S.foot Q k ∨ k = v ∨ k = x ∨ u.ownBlock = some k
theorem FV.ft_lt (h : FV w0 base w S Q M n t f xs v x u l) {k : Nat} (hk : FV.ft S Q v x u k) : k < w.heap.size := by
  rcases hk with hk | rfl | rfl | hk
  · exact h.st.foot_lt hk
  · exact h.vw.lt
  · exact h.ix.1.lt
  · exact (h.ix.2.1.block hk).2

theorem do_append_ok (nN fN : Nat) (hfN : fN < 4294967296) (tg : ByteArray) (htg : tagS tg = true) (hts : tg.size ≤ 1000000) (fl : Int) (hf0 : 0 ≤ fl ∧ fl ≤ 31) (A : Option Addr) (dn dc : Nat) (h : FV w0 base w S Q M (nN : Int) t (fN : Int) xs v x u (M.map Msg.uid)) (hq : Q.l 0 = [])
    (hcap : (M.length : Int) < S.cap) (hnN : nN < 4294967295) (body : List Int) (hbd : Rd (intE .u8) w0 (.slice A dn dc) body) (hbl : body.length ≤ 65536) (hdn : dn ≤ 65536) (hT : Tabs w0) (hML : M.length ≤ 4000) :
    Calls Tryz.prog 17 #[.pointer (some ⟨xs, 0, none⟩), cmdV tg 6 inboxS fl (.slice A dn dc)] w fun e w' => ∃ vr r1 tx, e = .returned vr ∧ Own rspE 53 w.heap.size w' vr [r1, repR tg 0 tx] ∧ Fr (FV.ft S Q v x u) w w' ∧
      ∃ S' Q' u', S'.s = S.s ∧ S'.cap = S.cap ∧ Q'.l 0 = [] ∧ FV w0 base w' S' Q' (M ++ [(⟨(nN : Int), fl, body⟩ : Msg)]) ((nN + 1 : Nat) : Int) (t + 1) (fN : Int) xs v x u' ((M ++ [(⟨(nN : Int), fl, body⟩ : Msg)]).map Msg.uid) := by
  have hb := h.st.hb
  have h0 := h.st.new.size
  refine (xdo_any xs (.pointer (some ⟨S.s, 0, none⟩)) 0 (some ⟨v, 0, none⟩) ⟨tg, 6, inboxS, none, 0, 0, 0, 0, false, fl, A, dn, dc⟩ 68 false (FV.ft S Q v x u)
    (fun st _ lo W' => st = 0 ∧ lo.length = 1 ∧ ∃ S' Q' u', S'.s = S.s ∧ S'.cap = S.cap ∧ Q'.l 0 = [] ∧ FV w0 base W' S' Q' (M ++ [(⟨(nN : Int), fl, body⟩ : Msg)]) ((nN + 1 : Nat) : Int) (t + 1) (fN : Int) xs v x u' ((M ++ [(⟨(nN : Int), fl, body⟩ : Msg)]).map Msg.uid)) w (enters_of Tryz.func68 (by kernel_rfl) rfl) h.ses rfl okI6 (by simp)
    (fun W hW => valid_append tg htg hts fl hf0.1 hf0.2 A dn dc hdn W (hT.new (h.st.new.trans hW))) ?_ (fun k hk => h.ft_lt hk) (fun st tx lr vr A B ⟨e1, e2, S', Q', u', e3, e4, e5, hv⟩ ho hf => ⟨e1, e2, S', Q', u', e3, e4, e5, hv.own hb h0 ho hf⟩)).mono ?_
  · intro OB W hW hOB hbk
    refine (append_ok nN fN hfN OB ⟨tg, 6, inboxS, none, 0, 0, 0, 0, false, fl, A, dn, dc⟩ rfl same_inbox W (h.new hW) hq hcap hnN hf0 body hbd hbl hT hbk (by omega) (by omega) w.heap.size hW.size hML).mono ?_
    rintro e W' ⟨tx, vo, lo, rfl, h1, h2, h3, h4, h5⟩
    exact ⟨0, tx, vo, lo, rfl, h1, h2, by omega, h4, rfl, h3, h5⟩
  · rintro e w' ⟨st, tx, vr, lr, rfl, ho, hf, rfl, hl, hX⟩
    obtain ⟨r1, rfl⟩ : ∃ r1, lr = [r1] := by
      match lr, hl with
      | [r1], _ => exact ⟨r1, rfl⟩
    exact ⟨vr, r1, tx, rfl, ho, hf, hX⟩

theorem do_append_no (nN fN : Nat) (hfN : fN < 4294967296) (tg : ByteArray) (htg : tagS tg = true) (hts : tg.size ≤ 1000000) (fl : Int) (hf0 : 0 ≤ fl ∧ fl ≤ 31) (A : Option Addr) (dn dc : Nat) (h : FV w0 base w S Q M (nN : Int) t (fN : Int) xs v x u (M.map Msg.uid)) (hq : Q.l 0 = [])
    (hno : (M.length : Int) = S.cap ∨ (M.length : Int) < S.cap ∧ (nN : Int) = 4294967295) (hnN : nN ≤ 4294967295) (hdn : dn ≤ 65536) (hT : Tabs w0) (hML : M.length ≤ 4000) :
    Calls Tryz.prog 17 #[.pointer (some ⟨xs, 0, none⟩), cmdV tg 6 inboxS fl (.slice A dn dc)] w fun e w' => ∃ vr tx, e = .returned vr ∧ Own rspE 53 w.heap.size w' vr [repR tg 1 tx] ∧ Fr (FV.ft S Q v x u) w w' ∧
      ∃ S' Q', S'.s = S.s ∧ S'.cap = S.cap ∧ Q'.l 0 = [] ∧ FV w0 base w' S' Q' M (nN : Int) t (fN : Int) xs v x u (M.map Msg.uid) := by
  have hb := h.st.hb
  have h0 := h.st.new.size
  refine (xdo_any xs (.pointer (some ⟨S.s, 0, none⟩)) 0 (some ⟨v, 0, none⟩) ⟨tg, 6, inboxS, none, 0, 0, 0, 0, false, fl, A, dn, dc⟩ 68 false (FV.ft S Q v x u)
    (fun st _ lo W' => st = 1 ∧ lo = [] ∧ ∃ S' Q', S'.s = S.s ∧ S'.cap = S.cap ∧ Q'.l 0 = [] ∧ FV w0 base W' S' Q' M (nN : Int) t (fN : Int) xs v x u (M.map Msg.uid)) w (enters_of Tryz.func68 (by kernel_rfl) rfl) h.ses rfl okI6 (by simp)
    (fun W hW => valid_append tg htg hts fl hf0.1 hf0.2 A dn dc hdn W (hT.new (h.st.new.trans hW))) ?_ (fun k hk => h.ft_lt hk) (by rintro st tx lr vr AA BB ⟨e1, e2, S', Q', e3, e4, e5, hv⟩ ho hf; exact ⟨e1, e2, S', Q', e3, e4, e5, hv.own hb h0 ho hf⟩)).mono ?_
  · intro OB W hW hOB hbk
    refine (append_no nN fN hfN OB ⟨tg, 6, inboxS, none, 0, 0, 0, 0, false, fl, A, dn, dc⟩ rfl same_inbox W (h.new hW) hq hno hnN hf0.2 hdn hT hbk (by omega) (by omega) w.heap.size hW.size hML).mono ?_
    rintro e W' ⟨tx, vo, lo, rfl, h1, h2, rfl, h4, h5⟩
    exact ⟨1, tx, vo, [], rfl, h1, h2, by simp, h4, rfl, rfl, h5⟩
  · rintro e w' ⟨st, tx, vr, lr, rfl, ho, hf, rfl, rfl, hX⟩
    exact ⟨vr, tx, rfl, ho, hf, hX⟩
end
end Go.Proofs.YtliimglbbiebiaaGreatDoor
end

section
/- plan: the layout's counts, the plans, For at a NOOP of a session without a view. -/
namespace Go.Proofs.YtliimglbbiebiaaGreatDoor
open Go.RowKit Go.Maps

abbrev layV (a b : Int) : Value := .agg #[.int .i64 a, .int .i64 b]

theorem queues_any (a b : Int) (h0 : 0 ≤ a) (h1 : a ≤ 1000) (w : World) : Calls Tryz.prog 47 #[layV a b] w fun e w' => e = .returned (.int .i64 (1 + a)) ∧ New w w' := by
  have hw : IntKind.i64.wrap (1 + a) = 1 + a := IntWalk.i64_in _ (by omega)
  go_enter Tryz.func47, Tryz.ntmps47
  go_wp2
  go_ret
  exact ⟨rfl, (New.refl w).alloc _⟩

set_option maxHeartbeats 800000 in
theorem count_any (a b : Int) (h0 : 0 ≤ a) (h1 : a ≤ 1000) (h2 : 0 ≤ b) (h3 : b ≤ 1000) (w : World) : Calls Tryz.prog 27 #[layV a b] w fun e w' => e = .returned (.int .i64 (1 + a + b)) ∧ New w w' := by
  obtain ⟨w0, hw0⟩ : ∃ w0, w0 = w.alloc (.cells #[.int .i64 a, .int .i64 b] 65) := ⟨_, rfl⟩
  have n0 : New w w0 := hw0 ▸ (New.refl w).alloc _
  have b0 : Blk w0 w.heap.size 65 #[.int .i64 a, .int .i64 b] := hw0 ▸ Blk.new _ _ _
  obtain ⟨k0, k1⟩ := b0.all2
  have hw : IntKind.i64.wrap (1 + a + b) = 1 + a + b := IntWalk.i64_in _ (by omega)
  go_enter Tryz.func27, Tryz.ntmps27
  go_wp2_with fail
  rw [← hw0]
  clear hw0
  go_region_held3 (fun W => W.cell? ⟨w.heap.size, 0, none⟩ = some (.int .i64 a) ∧ W.cell? ⟨w.heap.size, 1, none⟩ = some (.int .i64 b)) (first | go_keep | (refine ⟨?_, ?_⟩ <;> assumption)) ((first
    | (go_at_call 47
       refine (queues_any a b h0 h1 _).mono ?_
       rintro e w2 ⟨rfl, m2⟩
       have hnq : New w0 w2 := Fr.trans (by repeat' first | exact New.refl _ | apply Fr.alloc | apply Fr.drewN | apply Fr.drew) m2
       have p0 := Fr.cell hnq k0 id
       have p1 := Fr.cell hnq k1 id)
    | fail))
  all_goals
    go_wp2
    go_ret
    exact ⟨rfl, n0.trans hnq⟩

set_option maxHeartbeats 800000 in
theorem queue_any (a b i : Int) (h0 : 0 ≤ a) (h1 : a ≤ 1000) (h3 : b ≤ 1000) (hi0 : 0 ≤ i) (hi1 : i < b) (w : World) : Calls Tryz.prog 51 #[layV a b, .int .i64 i] w fun e w' => e = .returned (.tuple #[.int .i64 (1 + a + i), .bool true]) ∧ New w w' := by
  have n0 : New w (w.alloc (.cells #[.int .i64 a, .int .i64 b] 65)) := (New.refl w).alloc _
  have hw : IntKind.i64.wrap (1 + a + i) = 1 + a + i := IntWalk.i64_in _ (by omega)
  have d0 : ¬ i < 0 := by omega
  have d1 : ¬ b ≤ i := by omega
  go_enter Tryz.func51, Tryz.ntmps51
  go_wp2_with fail
  refine (queues_any a b h0 h1 _).mono ?_
  rintro e w2 ⟨rfl, m2⟩
  go_wp2
  go_ret2
  exact ⟨rfl, n0.trans m2⟩

abbrev plF (f : Nat) : Value := .func (.func f) #[] #[]
def plansL : List (Int × Value) := (put (put (put (put (put (put (put (put [] 1 (plF 279)) 2 (plF 279)) 3 (plF 280)) 4 (plF 280)) 5 (plF 281)) 6 (plF 282)) 7 (plF 283)) 8 (plF 284))
set_option maxRecDepth 100000 in
set_option maxHeartbeats 1600000 in
theorem plans_any (w : World) : Calls Tryz.prog 209 #[] w fun e w' => e = .returned (.map (some w.heap.size)) ∧ HasMap iKeys w' w.heap.size plansL ∧ New w w' := by
  have hmm := @run_makeMap Tryz.prog
  have h00 := HasMap.made iKeys w
  go_enter Tryz.func209, Tryz.ntmps209
  go_wp2_with (first
    | (refine wpList_ins (E := iKeys) rfl _ _ _ 321 319 rfl Tryz.underlying321 h00 (Nat.lt_of_le_of_lt (Nat.le_refl 0) (by unfold maxLen; decide)) 1 (by show (Lit.int .i64 1).wf = true; decide) (plF 279) rfl rfl rfl ?_; intro zw1 zm1 zo1)
    | (refine wpList_ins (E := iKeys) rfl _ _ _ 321 319 rfl Tryz.underlying321 zm1 (Nat.lt_of_le_of_lt (ins_len (Nat.le_refl 0)) (by unfold maxLen; decide)) 2 (by show (Lit.int .i64 2).wf = true; decide) (plF 279) rfl rfl rfl ?_; intro zw2 zm2 zo2)
    | (refine wpList_ins (E := iKeys) rfl _ _ _ 321 319 rfl Tryz.underlying321 zm2 (Nat.lt_of_le_of_lt (ins_len (ins_len (Nat.le_refl 0))) (by unfold maxLen; decide)) 3 (by show (Lit.int .i64 3).wf = true; decide) (plF 280) rfl rfl rfl ?_; intro zw3 zm3 zo3)
    | (refine wpList_ins (E := iKeys) rfl _ _ _ 321 319 rfl Tryz.underlying321 zm3 (Nat.lt_of_le_of_lt (ins_len (ins_len (ins_len (Nat.le_refl 0)))) (by unfold maxLen; decide)) 4 (by show (Lit.int .i64 4).wf = true; decide) (plF 280) rfl rfl rfl ?_; intro zw4 zm4 zo4)
    | (refine wpList_ins (E := iKeys) rfl _ _ _ 321 319 rfl Tryz.underlying321 zm4 (Nat.lt_of_le_of_lt (ins_len (ins_len (ins_len (ins_len (Nat.le_refl 0))))) (by unfold maxLen; decide)) 5 (by show (Lit.int .i64 5).wf = true; decide) (plF 281) rfl rfl rfl ?_; intro zw5 zm5 zo5)
    | (refine wpList_ins (E := iKeys) rfl _ _ _ 321 319 rfl Tryz.underlying321 zm5 (Nat.lt_of_le_of_lt (ins_len (ins_len (ins_len (ins_len (ins_len (Nat.le_refl 0)))))) (by unfold maxLen; decide)) 6 (by show (Lit.int .i64 6).wf = true; decide) (plF 282) rfl rfl rfl ?_; intro zw6 zm6 zo6)
    | (refine wpList_ins (E := iKeys) rfl _ _ _ 321 319 rfl Tryz.underlying321 zm6 (Nat.lt_of_le_of_lt (ins_len (ins_len (ins_len (ins_len (ins_len (ins_len (Nat.le_refl 0))))))) (by unfold maxLen; decide)) 7 (by show (Lit.int .i64 7).wf = true; decide) (plF 283) rfl rfl rfl ?_; intro zw7 zm7 zo7)
    | (refine wpList_ins (E := iKeys) rfl _ _ _ 321 319 rfl Tryz.underlying321 zm7 (Nat.lt_of_le_of_lt (ins_len (ins_len (ins_len (ins_len (ins_len (ins_len (ins_len (Nat.le_refl 0)))))))) (by unfold maxLen; decide)) 8 (by show (Lit.int .i64 8).wf = true; decide) (plF 284) rfl rfl rfl ?_; intro zw8 zm8 zo8))
  go_ret
  exact ⟨rfl, zm8, New.one ((New.refl w).alloc _) (zo1.trans (zo2.trans (zo3.trans (zo4.trans (zo5.trans (zo6.trans (zo7.trans zo8))))))) (Nat.le_refl _)⟩
theorem zeroPl (w : World) : (zeroValue 319).run Tryz.prog w = .ok .nilFunc w := by kernel_rfl
theorem plans_get (k : Int) (f : Nat) (hop : get plansL k = some (plF f)) (hok : iKeys.ok k) (W : World) : Calls Tryz.prog 209 #[] W fun e w2 => ∃ m, e = .returned (.map (some m)) ∧ New W w2 ∧
    (Instr.lookup 321 (.map (some m)) (.int .i64 k) true).run Tryz.prog w2 = .ok (.tuple #[plF f, .bool true]) w2 := by
  refine (plans_any W).mono ?_
  rintro e w2 ⟨rfl, hM2, m2⟩
  refine ⟨_, rfl, m2, ?_⟩
  have hl := hM2.run_look_ok (t := 321) (e := 319) Tryz.underlying321 (zeroPl w2) hok
  rw [hop] at hl
  exact hl

theorem mine_none (q : Nat) (w : World) (h : w.cell? ⟨q, 3, none⟩ = some (.pointer none)) : Calls Tryz.prog 279 #[.pointer (some ⟨q, 0, none⟩)] w fun e w' => e = .returned (.tuple #[]) ∧ w' = w := by
  go_enter Tryz.func279, Tryz.ntmps279
  go_wp2
  go_end0
  exact ⟨rfl, rfl⟩

set_option maxRecDepth 100000 in
set_option maxHeartbeats 3200000 in
theorem for_none (a b i : Int) (h0 : 0 ≤ a) (_ha : a ≠ 0) (h1 : a ≤ 1000) (h3 : b ≤ 1000) (hi0 : 0 ≤ i) (hi1 : i < b) (c : Cmd) (hk : c.k = 1) (w : World) :
    Calls Tryz.prog 153 #[layV a b, .int .i64 i, .pointer none, c.val] w fun e w' => e = .returned (.slice none 0 0) ∧ New w w' := by
  obtain ⟨w0, hw0⟩ : ∃ w0, w0 = (w.alloc (.cells #[.int .i64 a, .int .i64 b] 65)).alloc (.cells #[.string c.t, .int .i64 c.k, .string c.m, .slice c.sA c.sn c.sc, .int .i64 c.it, .int .i64 c.mo, .bool c.si, .int .u8 c.fl, .slice c.dA c.dn c.dc] 47) := ⟨_, rfl⟩
  have n0 : New w w0 := hw0 ▸ ((New.refl w).alloc _).alloc _
  have a0 : Blk w0 w.heap.size 65 #[.int .i64 a, .int .i64 b] := hw0 ▸ (Blk.new _ _ _).alloc _
  have b0 : Blk w0 (w.heap.size + 1) 47 #[.string c.t, .int .i64 c.k, .string c.m, .slice c.sA c.sn c.sc, .int .i64 c.it, .int .i64 c.mo, .bool c.si, .int .u8 c.fl, .slice c.dA c.dn c.dc] := hw0 ▸ Blk.new1 _ _ _ _
  obtain ⟨p0, p1⟩ := a0.all2
  have HG := plans_get c.k 279 (by rw [hk]; rfl) (by rw [hk]; exact okI1)
  have HK := Lib.hid hk
  clear hk
  subst hw0
  go_enter Tryz.func153, Tryz.ntmps153
  go_wp2_with fail
  refine (queue_any a b i h0 h1 h3 hi0 hi1 _).mono ?_
  rintro e w1 ⟨rfl, m1⟩
  have a1 := m1.blk a0
  have b1 := m1.blk b0
  have n1 := n0.trans m1
  clear a0 b0 p0 p1 m1 n0
  obtain ⟨p0, p1⟩ := a1.all2
  obtain ⟨k0, k1, k2, k3, k4, k5, k6, k7, k8⟩ := b1.all9
  go_wp2_with fail
  go_region_held3 (fun W => W.cell? ⟨w.heap.size + 1, 1, none⟩ = some (.int .i64 c.k)) (first | go_keep | assumption) ((first
    | (go_at_call 209
       refine (HG _).mono ?_
       rintro e w2 ⟨m, rfl, m2, hl⟩
       have hnq : New w1 w2 := Fr.trans (by repeat' first | exact New.refl _ | apply Fr.alloc | apply Fr.drewN | apply Fr.drew) m2
       have q1 := Fr.cell hnq k1 id)
    | fail))
  all_goals
    have a2 := hnq.blk a1
    have b2 := hnq.blk b1
    have n2 := n1.trans hnq
    clear p0 p1 k0 k1 k2 k3 k4 k5 k6 k7 k8 hl m2 n1 hnq a1 b1 q1
    obtain ⟨p0, p1⟩ := a2.all2
    obtain ⟨k0, k1, k2, k3, k4, k5, k6, k7, k8⟩ := b2.all9
    have r2 := Blk.new w2 325 #[.int .i64 a, .int .i64 b, .int .i64 i, .pointer none, .string c.t, .int .i64 c.k, .string c.m, .slice c.sA c.sn c.sc, .int .i64 c.it, .int .i64 c.mo, .bool c.si, .int .u8 c.fl, .slice c.dA c.dn c.dc, .slice none 0 0]
    have r3 : (w2.alloc (.cells #[.int .i64 a, .int .i64 b, .int .i64 i, .pointer none, .string c.t, .int .i64 c.k, .string c.m, .slice c.sA c.sn c.sc, .int .i64 c.it, .int .i64 c.mo, .bool c.si, .int .u8 c.fl, .slice c.dA c.dn c.dc, .slice none 0 0] 325)).cell? ⟨w2.heap.size, 3, none⟩ = some (.pointer none) := r2.cell 3
    have r13 : (w2.alloc (.cells #[.int .i64 a, .int .i64 b, .int .i64 i, .pointer none, .string c.t, .int .i64 c.k, .string c.m, .slice c.sA c.sn c.sc, .int .i64 c.it, .int .i64 c.mo, .bool c.si, .int .u8 c.fl, .slice c.dA c.dn c.dc, .slice none 0 0] 325)).cell? ⟨w2.heap.size, 13, none⟩ = some (.slice none 0 0) := r2.cell 13
    have n3 := n2.alloc (.cells #[.int .i64 a, .int .i64 b, .int .i64 i, .pointer none, .string c.t, .int .i64 c.k, .string c.m, .slice c.sA c.sn c.sc, .int .i64 c.it, .int .i64 c.mo, .bool c.si, .int .u8 c.fl, .slice c.dA c.dn c.dc, .slice none 0 0] 325)
    go_wp2_with (go_at_call 279; refine (mine_none w2.heap.size _ r3).mono ?_; rintro e w4 ⟨rfl, rfl⟩)
    go_ret
    exact ⟨rfl, n3⟩
end Go.Proofs.YtliimglbbiebiaaGreatDoor
end

section
/- token.Tag and token.Tokens at 'a NOOP', 'b NOOP'. -/
namespace Go.Proofs.YtliimglbbiebiaaGreatDoor
open Go.RowKit

theorem results_ct {P : Program} {fn : Func} {p q : Tmp} {t : TypeId} (h : fn.results = #[.cell p t, .tmp q]) (tmps : Array Value) (w : World) {a : Addr} {v v' : Value}
    (hp : tmps[p]? = some (.pointer (some a))) (hq : tmps[q]? = some v') (hv : (loadVar t a).run P w = .ok v w) : (results fn tmps).run P w = .ok (.tuple #[v, v']) w := by
  simp [results, h, hp, hq, asAddr, hv]
theorem loadTok {w : World} {g : Nat} {a b c : Value} (h : Blk w g 435 #[a, b, c]) : (loadVar 435 ⟨g, 0, none⟩).run Tryz.prog w = .ok (.agg #[a, b, c]) w :=
  run_loadVar_row w g _ _ _ _ _ h Tryz.underlying435 rfl (by kernel_rfl)

/-- The bytes l stand in block b from place off on. -/
def Bts (w : World) (b off : Nat) (l : List UInt8) : Prop := ∀ i x, l[i]? = some x → w.cell? ⟨b, off + i, none⟩ = some (.int .u8 (x.toNat : Int))
theorem Bts.fr {S : Nat → Prop} {w w' : World} {b off : Nat} {l : List UInt8} (h : Bts w b off l) (hf : Fr S w w') (hS : ¬ S b) : Bts w' b off l := fun i x hx => Fr.cell hf (h i x hx) hS
theorem Bts.new {w w' : World} {b off : Nat} {l : List UInt8} (h : Bts w b off l) (hf : New w w') : Bts w' b off l := h.fr hf id
theorem Bts.drop {w : World} {b off : Nat} {l : List UInt8} (h : Bts w b off l) (k : Nat) : Bts w b (off + k) (l.drop k) := fun i x hx => by
  rw [List.getElem?_drop] at hx
  have := h (k + i) x hx
  rwa [← Nat.add_assoc] at this
theorem Bts.take {w : World} {b off : Nat} {l : List UInt8} (h : Bts w b off l) (k : Nat) : Bts w b off (l.take k) := fun i x hx => by
  rw [List.getElem?_take] at hx
  split at hx
  · exact h i x hx
  · cases hx
/-- string(b) of bytes that stand there. -/
theorem Bts.conv {w : World} {b off : Nat} {l : List UInt8} (h : Bts w b off l) (c : Nat) : (convert 23 9 (.slice (some ⟨b, off, none⟩) l.length c)).run Tryz.prog w = .ok (.string ⟨l.toArray⟩) w :=
  run_convert_bytes_back (P := Tryz.prog) w 23 9 5 ⟨b, off, none⟩ c l Tryz.underlying23 Tryz.underlying5 Tryz.underlying9 fun j hj => by
    rw [Addr.add_lit]
    exact h j _ (List.getElem?_eq_getElem hj)
/-- .. as the shelf asks it. -/
def nums (l : List UInt8) : List Int := l.map fun x => (x.toNat : Int)
theorem nums_len (l : List UInt8) : (nums l).length = l.length := List.length_map ..
theorem nums_back (l : List UInt8) : Lib.bytesOf (nums l) = l := by
  unfold Lib.bytesOf nums
  rw [List.map_map]
  conv => rhs; rw [← List.map_id l]
  apply List.map_congr_left
  intro x _
  simp
theorem Bts.cells {w : World} {b off : Nat} {l : List UInt8} (h : Bts w b off l) : ∀ i, i < l.length → w.cell? ⟨b, off + i, none⟩ = some (.int .u8 ((nums l).getD i 0)) := fun i hi => by
  rw [h i _ (List.getElem?_eq_getElem hi)]
  simp [nums, List.getD, hi]

/-- The line of a client: x NOOP. -/
def lineL (x : UInt8) : List UInt8 := [x, 32, 78, 79, 79, 80]

set_option maxRecDepth 100000 in
set_option maxHeartbeats 1600000 in
theorem tag_line (x : UInt8) (hx : x = 97 ∨ x = 98) (b off c : Nat) (hc : 6 ≤ c) (w : World) (hb : Bts w b off (lineL x)) :
    Calls Tryz.prog 208 #[.slice (some ⟨b, off, none⟩) 6 c] w fun e w' => e = .returned (.tuple #[.string ⟨#[x]⟩, .int .i64 2, .bool true]) ∧ New w w' := by
  have hib := Tryz.bytes_IndexByte b off 6 c (nums (lineL x)) 32 w (nums_len _) hb.cells
  rw [nums_back] at hib
  have hcv : ∀ W, New w W → (convert 23 9 (.slice (some ⟨b, off, none⟩) 1 c)).run Tryz.prog W = .ok (.string ⟨#[x]⟩) W := fun W hW => (Bts.take (hb.new hW) 1).conv c
  have hall := All_tag ⟨#[x]⟩ (by show 1 ≤ 1000000; decide) w
  have e1 : Lib.indexByte (lineL x) ((32 : Int).toNat.toUInt8) = 1 := by rcases hx with rfl | rfl <;> decide
  have e2 : tagS ⟨#[x]⟩ = true := by rcases hx with rfl | rfl <;> decide +kernel
  rw [e1] at hib
  rw [e2] at hall
  have hcv0 := hcv w (New.refl w)
  clear hb hx e1 e2
  go_enter Tryz.func208, Tryz.ntmps208
  go_wp2_with (go_at_call 264; refine hib.mono ?_; rintro e w' ⟨rfl, rfl⟩)
  refine hall.mono ?_
  rintro e w1 ⟨rfl, n1⟩
  have hcv1 := hcv w1 n1
  go_wp2
  go_ret3
  exact ⟨rfl, n1⟩

set_option maxHeartbeats 800000 in
theorem isWord_yes (x : Int) (h1 : 32 < x) (h2 : x ≤ 126) (hi : Lib.indexByte [40, 41, 34, 123] x.toNat.toUInt8 = -1) (w : World) : Calls Tryz.prog 417 #[.int .u8 x] w fun e w' => e = .returned (.bool true) ∧ w' = w := by
  have h := Tryz.strings_IndexByte ⟨#[40, 41, 34, 123]⟩ x w
  have e : Lib.indexByte (⟨#[40, 41, 34, 123]⟩ : ByteArray).data.toList x.toNat.toUInt8 = -1 := hi
  rw [e] at h
  go_enter Tryz.func417, Tryz.ntmps417
  go_wp2_with (go_at_call 444; refine h.mono ?_; rintro e w' ⟨rfl, rfl⟩)
  go_ret
  exact ⟨rfl, rfl⟩

def wordB (x : Int) : Bool := decide (32 < x) && decide (x ≤ 126) && decide (Lib.indexByte [40, 41, 34, 123] x.toNat.toUInt8 = -1)
theorem isWord_of (x : Int) (h : wordB x = true) (w : World) : Calls Tryz.prog 417 #[.int .u8 x] w fun e w' => e = .returned (.bool true) ∧ w' = w := by
  unfold wordB at h
  simp only [Bool.and_eq_true, decide_eq_true_eq] at h
  exact isWord_yes x h.1.1 h.1.2 h.2 w

set_option maxRecDepth 100000 in
set_option maxHeartbeats 3200000 in
theorem word_all (r b off c : Nat) (l : List UInt8) (hl : l.length ≤ 1000000) (hc : l.length ≤ c) (hw : ∀ x ∈ l, wordB (x.toNat : Int) = true) (h0 : 0 < l.length) (w : World) (hr : Blk w r 433 #[.slice (some ⟨b, off, none⟩) l.length c, .int .i64 0]) (hb : Bts w b off l) (hbr : b ≠ r) :
    Calls Tryz.prog 368 #[.pointer (some ⟨r, 0, none⟩)] w fun e w' => e = .returned (.tuple #[.agg #[.int .i64 4, .string ⟨l.toArray⟩, .int .i64 0], .bool true]) ∧ Blk w' r 433 #[.slice (some ⟨b, off, none⟩) l.length c, .int .i64 l.length] ∧ One r w w' := by
  have hlt := hr.lt
  have c0 : w.cell? ⟨r, 0, none⟩ = some (.slice (some ⟨b, off, none⟩) l.length c) := hr.cell 0
  have c1 : w.cell? ⟨r, 1, none⟩ = some (.int .i64 0) := hr.cell 1
  go_enter Tryz.func368, Tryz.ntmps368
  go_wp2_with fail
  go_loopw [31] (fun _ wr => ∃ k : Nat, k ≤ l.length ∧ Blk wr r 433 #[.slice (some ⟨b, off, none⟩) l.length c, .int .i64 k] ∧ Blk wr w.heap.size 435 #[.int .i64 0, .string ⟨#[]⟩, .int .i64 0] ∧ One r w wr) (fun _ wr => l.length - (intOf ((wr.cell? ⟨r, 1, none⟩).getD undef)).toNat)
  case atStart => exact ⟨0, Nat.zero_le _, hr.alloc _, Blk.new _ _ _, (One.refl r w).alloc _⟩
  case round =>
    obtain ⟨k, hk, hbr2, hbt, hone⟩ := hrel
    have d0 : wr.cell? ⟨r, 0, none⟩ = some (.slice (some ⟨b, off, none⟩) l.length c) := hbr2.cell 0
    have d1 : wr.cell? ⟨r, 1, none⟩ = some (.int .i64 k) := hbr2.cell 1
    have f1 : wr.frozen? ⟨r, 1, none⟩ = false := hbr2.frozen 1
    by_cases hkl : k < l.length
    · have hat : wr.cell? ⟨b, off + k, none⟩ = some (.int .u8 (l[k].toNat : Int)) := (hb.fr hone hbr) k _ (List.getElem?_eq_getElem hkl)
      have y0 := isWord_of _ (hw l[k] (List.getElem_mem hkl))
      generalize (l[k].toNat : Int) = x at *
      go_wp2_with fail
      go_quiet ((go_at_call 417; exact Calls.quiet_of_same (y0 _)))
      go_wp2
      go_roundw
      case rel => exact ⟨k + 1, by omega, (hbr2.drewN nq).set_ 1 _, (hbt.drewN nq).far (by simp; omega) _, Fr.setCell (hone.drewN nq) (fun _ => rfl) _⟩
      case measure =>
        have e1 : ((wr.drewN nq).setCell ⟨r, 1, none⟩ (.int .i64 ((k : Int) + 1))).cell? ⟨r, 1, none⟩ = some (.int .i64 ((k : Int) + 1)) := ((hbr2.drewN nq).set_ 1 _).cell 1
        rw [e1, d1]
        simp [intOf]
        omega
    · obtain rfl : k = l.length := by omega
      go_wp2_with fail
      go_quiet (fail)
      go_wp2_with fail
      have g0 : wr.cell? ⟨w.heap.size, 0, none⟩ = some (.int .i64 0) := hbt.cell 0
      have g1 : wr.cell? ⟨w.heap.size, 1, none⟩ = some (.string ⟨#[]⟩) := hbt.cell 1
      have g2 : wr.cell? ⟨w.heap.size, 2, none⟩ = some (.int .i64 0) := hbt.cell 2
      have k0 : wr.frozen? ⟨w.heap.size, 0, none⟩ = false := hbt.frozen 0
      have k1 : wr.frozen? ⟨w.heap.size, 1, none⟩ = false := hbt.frozen 1
      have k2 : wr.frozen? ⟨w.heap.size, 2, none⟩ = false := hbt.frozen 2
      have hcv := fun n => Bts.conv (w := wr.drewN n) (hb.fr (Fr.drewN hone n) hbr) c
      have hcv2 := fun n => Bts.conv (w := (wr.drewN n).drew) (hb.fr (Fr.drew (Fr.drewN hone n)) hbr) c
      go_region
      go_wp2
      have q := ((((hbt.drewN (nq + 1)).set_ 0 (.int .i64 4)).set_ 1 (.string ⟨l.toArray⟩)).set_ 2 (.int .i64 0))
      refine bodyPost_ret (results_ct rfl _ _ rfl rfl (loadTok q)) rfl ?_
      have hne : r ≠ w.heap.size := by omega
      refine ⟨rfl, ((((hbr2.drewN (nq + 1)).far (by simpa using hne) _).far (by simpa using hne) _).far (by simpa using hne) _), ?_⟩
      exact Fr.setCell (Fr.setCell (Fr.setCell (Fr.drewN hone _) (by simp) _) (by simp) _) (by simp) _
end Go.Proofs.YtliimglbbiebiaaGreatDoor
end

section
/- frame.Splitter: line, at one whole line and at nothing; quote.Announced at a line that ends otherwise. -/
namespace Go.Proofs.YtliimglbbiebiaaGreatDoor
open Go.RowKit

/-- A line with its end. -/
def wholeL (x : UInt8) : List UInt8 := [x, 32, 78, 79, 79, 80, 13, 10]
theorem whole_index (x : UInt8) (hx : x = 97 ∨ x = 98) : Lib.index (wholeL x) [13, 10] = 6 := by rcases hx with rfl | rfl <;> decide

theorem nums_bd (l : List UInt8) : ∀ x ∈ nums l, 0 ≤ x ∧ x < 256 := by
  intro x hx
  obtain ⟨y, _, rfl⟩ := List.mem_map.1 hx
  have := y.toNat_lt
  omega

theorem const_made0 (w : World) (C : Array Value) (n : Nat) : ∃ w1, (convert 23 23 (.slice (some ⟨w.heap.size, 0, none⟩) n n)).run Tryz.prog (w.alloc (.cells C 5)) = .ok (.slice (some ⟨w.heap.size, 0, none⟩) n n) w1 ∧ New w w1 ∧
    ∀ i v, C[i]? = some v → w1.cell? ⟨w.heap.size, i, none⟩ = some v := by
  refine ⟨_, Lib.run_convert_bytes_const (P := Tryz.prog) w 23 5 C n n Tryz.underlying23 Tryz.underlying5, (New.refl w).alloc _, fun i v hv => ?_⟩
  simp [World.cell?, World.alloc, -World.alloc_eq, hv]
/-- A constant's bytes as a slice: a new row. -/
theorem const_made (w : World) (C : Array Value) (n : Nat) : ∃ w1, (convert 23 23 (.slice (some ⟨w.heap.size, 0, none⟩) n n)).run Tryz.prog (w.alloc (.cells C 5)).drew = .ok (.slice (some ⟨w.heap.size, 0, none⟩) n n) w1 ∧ New w w1 ∧
    ∀ i v, C[i]? = some v → w1.cell? ⟨w.heap.size, i, none⟩ = some v := by
  refine ⟨_, Lib.run_convert_bytes_const (P := Tryz.prog) w.drew 23 5 C n n Tryz.underlying23 Tryz.underlying5, ((New.refl w).drew).alloc _, fun i v hv => ?_⟩
  show (w.alloc (.cells C 5 (C.size, C.size + 1))).cell? ⟨w.heap.size, i, none⟩ = _
  simp [World.cell?, World.alloc, -World.alloc_eq, hv]

set_option maxRecDepth 100000 in
set_option maxHeartbeats 1600000 in
theorem line_ok (p b off c : Nat) (x : UInt8) (hx : x = 97 ∨ x = 98) (hc : 8 ≤ c) (w : World) (hT : Tabs w) (h : Blk w p 176 #[.slice (some ⟨b, off, none⟩) 8 c, .int .i64 0, .int .i64 0, .int .i64 0]) (hb : Bts w b off (wholeL x)) :
    Calls Tryz.prog 148 #[.pointer (some ⟨p, 0, none⟩)] w fun e w' => e = .returned (.tuple #[.int .i64 6, .bool true]) ∧ New w w' := by
  have c0 : w.cell? ⟨p, 0, none⟩ = some (.slice (some ⟨b, off, none⟩) 8 c) := h.cell 0
  have c3 : w.cell? ⟨p, 3, none⟩ = some (.int .i64 0) := h.cell 3
  have HI := Lib.hid (whole_index x hx)
  have hsl : ∀ W, (Instr.sliceAt 23 (.slice (some ⟨b, off, none⟩) 8 c) (some (.int .i64 0)) none none).run Tryz.prog W = .ok (.slice (some ⟨b, off, none⟩) 8 c) W := fun W => by
    rw [run_sliceAt_slice (P := Tryz.prog) W _ _ _ _ _ Tryz.underlying23]
    go_simp
  go_enter Tryz.func148, Tryz.ntmps148
  go_wp2_with fail
  obtain ⟨w1, hcv, n1, hC⟩ := const_made w #[.int .u8 13, .int .u8 10] 2
  have hsep : ∀ i, i < 2 → w1.cell? ((⟨w.heap.size, 0, none⟩ : Addr).add i) = some (.int .u8 (([13, 10] : List Int).getD i 0)) := by
    intro i hi
    rw [Addr.add_lit, Nat.zero_add]
    have : i = 0 ∨ i = 1 := by omega
    rcases this with rfl | rfl
    · exact hC 0 _ rfl
    · exact hC 1 _ rfl
  have hT1 := hT.new n1
  obtain ⟨mm, hmm⟩ := hT1.ml
  have hb1 := hb.new n1
  have hix := Tryz.bytes_Index_at ⟨b, off, none⟩ ⟨w.heap.size, 0, none⟩ 8 c 2 2 (nums (wholeL x)) [13, 10] mm w1 (nums_len _) rfl (nums_bd _) (by decide) (fun i hi => by rw [Addr.add_lit]; exact hb1.cells i hi) hsep hc (by decide) (by decide) hmm
  rw [nums_back] at hix
  change Calls Tryz.prog 201 _ w1 fun e w' => e = .returned (.int .i64 (Lib.index (wholeL x) [13, 10])) ∧ _ at hix
  rw [whole_index x hx] at hix
  have k0 : w1.cell? ⟨p, 0, none⟩ = some (.slice (some ⟨b, off, none⟩) 8 c) := Fr.cell n1 c0 id
  have k3 : w1.cell? ⟨p, 3, none⟩ = some (.int .i64 0) := Fr.cell n1 c3 id
  have kb0 : ∀ o, (w.alloc o).cell? ⟨p, 0, none⟩ = some (.slice (some ⟨b, off, none⟩) 8 c) := fun o => (h.alloc o).cell 0
  have kb3 : ∀ o, (w.alloc o).cell? ⟨p, 3, none⟩ = some (.int .i64 0) := fun o => (h.alloc o).cell 3
  have kd0 : ∀ o, (w.drew.alloc o).cell? ⟨p, 0, none⟩ = some (.slice (some ⟨b, off, none⟩) 8 c) := fun o => (h.drew.alloc o).cell 0
  have kd3 : ∀ o, (w.drew.alloc o).cell? ⟨p, 3, none⟩ = some (.int .i64 0) := fun o => (h.drew.alloc o).cell 3
  go_region_law ((first
    | (go_simp
       go_at_call 201
       refine hix.mono ?_
       rintro e w2 ⟨rfl, q, rfl⟩
       have g0 : (w1.drewN q).cell? ⟨p, 0, none⟩ = some (.slice (some ⟨b, off, none⟩) 8 c) := k0
       have g3 : (w1.drewN q).cell? ⟨p, 3, none⟩ = some (.int .i64 0) := k3
       go_wp2_with fail)
    | fail))
  all_goals
    go_wp2
    go_ret2
    exact ⟨rfl, n1.drewN q⟩

set_option maxRecDepth 100000 in
set_option maxHeartbeats 1600000 in
theorem line_empty (p : Nat) (A : Option Addr) (c : Nat) (w : World) (h : Blk w p 176 #[.slice A 0 c, .int .i64 0, .int .i64 0, .int .i64 0]) :
    Calls Tryz.prog 148 #[.pointer (some ⟨p, 0, none⟩)] w fun e w' => e = .returned (.tuple #[.int .i64 0, .bool false]) ∧ One p w w' ∧ Blk w' p 176 #[.slice A 0 c, .int .i64 0, .int .i64 0, .int .i64 0] := by
  have c0 : w.cell? ⟨p, 0, none⟩ = some (.slice A 0 c) := h.cell 0
  have c3 : w.cell? ⟨p, 3, none⟩ = some (.int .i64 0) := h.cell 3
  obtain ⟨A2, hsl⟩ : ∃ A2, ∀ W, (Instr.sliceAt 23 (.slice A 0 c) (some (.int .i64 0)) none none).run Tryz.prog W = .ok (.slice A2 0 c) W := by
    rcases A with _ | A
    · exact ⟨none, fun W => by
        rw [run_sliceAt_slice (P := Tryz.prog) W _ _ _ _ _ Tryz.underlying23]
        go_simp⟩
    · exact ⟨some A, fun W => by
        rw [run_sliceAt_slice (P := Tryz.prog) W _ _ _ _ _ Tryz.underlying23]
        go_simp⟩
  go_enter Tryz.func148, Tryz.ntmps148
  go_wp2_with fail
  obtain ⟨w1, hcv, n1, hC⟩ := const_made w #[.int .u8 13, .int .u8 10] 2
  have hix := Tryz.bytes_Index_longer A2 (some ⟨w.heap.size, 0, none⟩) 0 c 2 2 w1 (by decide) (by decide) (by decide)
  have h1 := n1.blk h
  have k0 : w1.cell? ⟨p, 0, none⟩ = some (.slice A 0 c) := h1.cell 0
  have k3 : w1.cell? ⟨p, 3, none⟩ = some (.int .i64 0) := h1.cell 3
  have hp := h1.lt
  have hf : w1.frozen? ⟨p, 3, none⟩ = false := h1.frozen 3
  have kb0 : ∀ o, (w.alloc o).cell? ⟨p, 0, none⟩ = some (.slice A 0 c) := fun o => (h.alloc o).cell 0
  have kb3 : ∀ o, (w.alloc o).cell? ⟨p, 3, none⟩ = some (.int .i64 0) := fun o => (h.alloc o).cell 3
  have kd0 : ∀ o, (w.drew.alloc o).cell? ⟨p, 0, none⟩ = some (.slice A 0 c) := fun o => (h.drew.alloc o).cell 0
  have kd3 : ∀ o, (w.drew.alloc o).cell? ⟨p, 3, none⟩ = some (.int .i64 0) := fun o => (h.drew.alloc o).cell 3
  go_region_law ((first
    | (go_simp
       go_at_call 201
       refine hix.mono ?_
       rintro e w2 ⟨rfl, rfl⟩
       go_wp2_with fail)
    | fail))
  all_goals
    clear hcv hix c0 c3 kb0 kb3 kd0 kd3
    go_wp2_with (first | go_region | fail)
    go_ret2
    have hm : max (0 : Int) (-1) = 0 := rfl
    rw [hm]
    first
    | exact ⟨rfl, ((New.to n1).trans ((One.refl p w2).set 3 _)), h1.set_ 3 _⟩
    | exact ⟨rfl, ((New.to n1).trans ((One.refl p w2).set 3 _)).drew, h1.set_ 3 _⟩
    | exact ⟨rfl, (((New.to n1).drew).trans ((One.refl p w2.drew).set 3 _)), h1.drew.set_ 3 _⟩

set_option maxRecDepth 100000 in
set_option maxHeartbeats 1600000 in
theorem announced_plain (b off c : Nat) (x : UInt8) (hx : x = 97 ∨ x = 98) (hc : 6 ≤ c) (w : World) (hb : Bts w b off (lineL x)) :
    Calls Tryz.prog 149 #[.slice (some ⟨b, off, none⟩) 6 c] w fun e w' => e = .returned (.tuple #[.int .i64 0, .bool false]) ∧ New w w' := by
  have hsf : Lib.hasSuffix (lineL x) [125] = false := by rcases hx with rfl | rfl <;> decide
  obtain ⟨w1, hcv, n1, hC⟩ := const_made0 w #[.int .u8 125] 1
  have hb1 := hb.new n1
  have hcs := Tryz.bytes_CutSuffix_all (some ⟨b, off, none⟩) (some ⟨w.heap.size, 0, none⟩) 6 c 1 1 (nums (lineL x)) [125] w1 (nums_len _) rfl hc (by decide) ?_ ?_
  · rw [nums_back] at hcs
    change Calls Tryz.prog 202 _ w1 fun e w' => e = .returned (.tuple #[_, .bool (Lib.hasSuffix (lineL x) [125])]) ∧ _ at hcs
    rw [hsf] at hcs
    go_enter Tryz.func149, Tryz.ntmps149
    go_wp2_with fail
    refine hcs.mono ?_
    rintro e w2 ⟨rfl, rfl⟩
    go_wp2
    go_ret2
    exact ⟨rfl, n1⟩
  · exact fun _ => ⟨b, off, rfl, hb1.cells⟩
  · refine fun _ => ⟨w.heap.size, 0, rfl, fun i hi => ?_⟩
    obtain rfl : i = 0 := by omega
    exact hC 0 _ rfl
end Go.Proofs.YtliimglbbiebiaaGreatDoor
end

section
/- frame.Splitter: Next, at one whole line and at nothing. -/
namespace Go.Proofs.YtliimglbbiebiaaGreatDoor
open Go.RowKit

set_option maxRecDepth 100000 in
set_option maxHeartbeats 1600000 in
theorem next_empty (p : Nat) (v : Value) (hv : Emp v) (w : World) (h : Blk w p 176 #[v, .int .i64 0, .int .i64 0, .int .i64 0]) :
    Calls Tryz.prog 106 #[.pointer (some ⟨p, 0, none⟩)] w fun e w' => e = .returned (.tuple #[.agg #[.int .i64 0, .slice none 0 0], .bool false]) ∧ One p w w' ∧ Blk w' p 176 #[v, .int .i64 0, .int .i64 0, .int .i64 0] := by
  obtain ⟨A, c, rfl⟩ := hv
  have hmf : ∀ (fn : Fn) (first cap : Array Value) (w : World), (Instr.makeFunc fn first cap).run Tryz.prog w = .ok (.func fn first cap) w := fun _ _ _ _ => rfl
  have n0 : New w (w.alloc (.cells #[.int .i64 0, .slice none 0 0] 174)) := (New.refl w).alloc _
  have h0 := n0.blk h
  have r0 : Blk (w.alloc (.cells #[.int .i64 0, .slice none 0 0] 174)) w.heap.size 174 #[.int .i64 0, .slice none 0 0] := Blk.new _ _ _
  have hlt := h.lt
  go_enter Tryz.func106, Tryz.ntmps106
  go_wp2_with fail
  refine (literal_zero p A 0 c (by omega) _ h0).mono ?_
  rintro e w1 ⟨rfl, o1, s1, h1⟩
  have r1 := o1.blk r0 (by omega)
  go_wp2_with fail
  refine (line_empty p A c _ h1).mono ?_
  rintro e w2 ⟨rfl, o2, h2⟩
  have r2 := o2.blk r1 (by omega)
  obtain ⟨k0, k1⟩ := r2.all2
  have f0 := r2.froz
  go_wp2_with fail
  have hR := r2.over2 (.int .i64 0) (.slice none 0 0)
  refine bodyPost_ret (results_cellt rfl _ _ rfl rfl (loadFr hR)) rfl ⟨rfl, Fr.setCell (Fr.setCell ((New.to n0).trans (o1.trans o2)) (p := ⟨w.heap.size, 0, none⟩) (fun h => absurd h (Nat.lt_irrefl _)) (.int .i64 0)) (p := ⟨w.heap.size, 1, none⟩) (fun h => absurd h (Nat.lt_irrefl _)) (.slice none 0 0), ?_⟩
  exact (h2.far (p := ⟨w.heap.size, 0, none⟩) (by show p ≠ w.heap.size; omega) _).far (p := ⟨w.heap.size, 1, none⟩) (by show p ≠ w.heap.size; omega) _

theorem Bts.rd {w : World} {b off : Nat} {l : List UInt8} (h : Bts w b off l) (c : Nat) (hc : l.length ≤ c) : Rd (intE .u8) w (.slice (some ⟨b, off, none⟩) l.length c) (nums l) := by
  refine ⟨_, _, by rw [nums_len], by rw [nums_len]; exact hc, fun _ => ⟨_, _, rfl, fun i x hx j u hu => ?_⟩⟩
  have hj : j = 0 := by
    rcases j with _ | j
    · rfl
    · simp [intE] at hu
  subst hj
  obtain rfl : u = .int .u8 x := by simp [intE] at hu; exact hu.symm
  unfold nums at hx
  rw [List.getElem?_map] at hx
  cases hl : l[i]? with
  | none => rw [hl] at hx; cases hx
  | some y =>
    rw [hl] at hx
    obtain rfl : (y.toNat : Int) = x := by simpa using hx
    have := h i y hl
    show w.cell? ⟨b, off + (i * 1 + 0), none⟩ = _
    rw [Nat.mul_one, Nat.add_zero]
    exact this
theorem lineL_len (x : UInt8) : (lineL x).length = 6 := rfl

set_option maxRecDepth 100000 in
set_option maxHeartbeats 1600000 in
theorem next_line (p b off c : Nat) (x : UInt8) (hx : x = 97 ∨ x = 98) (hc : 8 ≤ c) (hbp : b ≠ p) (w : World) (_hT : Tabs w) (h : Blk w p 176 #[.slice (some ⟨b, off, none⟩) 8 c, .int .i64 0, .int .i64 0, .int .i64 0]) (hb : Bts w b off (wholeL x)) (_hblt : b < w.heap.size) (hpt : ∀ w', One p w w' → Tabs w') :
    Calls Tryz.prog 106 #[.pointer (some ⟨p, 0, none⟩)] w fun e w' => ∃ d v, e = .returned (.tuple #[.agg #[.int .i64 1, d], .bool true]) ∧ One p w w' ∧ Own (intE .u8) 5 w.heap.size w' d (nums (lineL x)) ∧
      Emp v ∧ Blk w' p 176 #[v, .int .i64 0, .int .i64 0, .int .i64 0] := by
  have hmf : ∀ (fn : Fn) (first cap : Array Value) (w : World), (Instr.makeFunc fn first cap).run Tryz.prog w = .ok (.func fn first cap) w := fun _ _ _ _ => rfl
  have n0 : New w (w.alloc (.cells #[.int .i64 0, .slice none 0 0] 174)) := (New.refl w).alloc _
  have h0 := n0.blk h
  have r0 : Blk (w.alloc (.cells #[.int .i64 0, .slice none 0 0] 174)) w.heap.size 174 #[.int .i64 0, .slice none 0 0] := Blk.new _ _ _
  have hlt := h.lt
  have hb0 := hb.new n0
  have s0 : (w.alloc (.cells #[.int .i64 0, .slice none 0 0] 174)).heap.size = w.heap.size + 1 := by rw [World.size_alloc]
  have HPT := Lib.hid hpt
  have hc6 : ¬ (c : Int) < 6 := by omega
  have hsl : ∀ W, (Instr.sliceAt 23 (.slice (some ⟨b, off, none⟩) 8 c) (some (.int .i64 0)) (some (.int .i64 6)) none).run Tryz.prog W = .ok (.slice (some ⟨b, off, none⟩) 6 c) W := fun W => by
    rw [run_sliceAt_slice (P := Tryz.prog) W _ _ _ _ _ Tryz.underlying23]
    go_simp
  have hsl2 : ∀ W, (Instr.sliceAt 23 (.slice (some ⟨b, off, none⟩) 8 c) none (some (.int .i64 6)) none).run Tryz.prog W = .ok (.slice (some ⟨b, off, none⟩) 6 c) W := fun W => by
    rw [run_sliceAt_slice (P := Tryz.prog) W _ _ _ _ _ Tryz.underlying23]
    go_simp
  clear hpt
  go_enter Tryz.func106, Tryz.ntmps106
  go_wp2_with fail
  refine (literal_zero p (some ⟨b, off, none⟩) 8 c (by omega) _ h0).mono ?_
  rintro e w1 ⟨rfl, o1, s1, h1⟩
  have r1 := o1.blk r0 (by omega)
  have hb1 := hb0.fr o1 hbp
  have o01 := (New.to n0).trans o1
  go_wp2_with fail
  refine (line_ok p b off c x hx hc _ (HPT.out _ o01) h1 hb1).mono ?_
  rintro e w2 ⟨rfl, m2⟩
  have r2 := m2.blk r1
  have h2 := m2.blk h1
  have hb2 := hb1.new m2
  have o02 := o01.trans (New.to m2)
  obtain ⟨k0, k1, k2, k3⟩ := h2.all4
  clear r0 r1 h0 h1 hb0 hb1 o01 o1
  go_wp2_with (first | go_region | fail)
  have hb3 : Bts w2.drew b off (lineL x) := Bts.take hb2 6
  refine (announced_plain b off c x hx (by omega) _ hb3).mono ?_
  rintro e w3 ⟨rfl, m3⟩
  have m23 : New w2 w3 := Fr.trans (New.refl w2).drew m3
  have r3 := m23.blk r2
  have h3 := m23.blk h2
  have hrd : Rd (intE .u8) w3 (.slice (some ⟨b, off, none⟩) 6 c) (nums (lineL x)) := (hb3.new m3).rd c (by rw [lineL_len]; omega)
  have o03 := o02.trans (New.to m23)
  have s3 := o03.size
  have l3 := r3.lt
  clear k0 k1 k2 k3 r2 h2 hb2 hb3 o02 m2 m3
  obtain ⟨k0, k1, k2, k3⟩ := h3.all4
  go_wp2_with (first | go_region | fail)
  refine (finish_all p 1 _ (nums (lineL x)) b off 8 c (by omega) hc _ _ _ _ h3 hrd (by rw [nums_len, lineL_len]; decide) (by simpa [Value.ownBlock] using hbp)).mono ?_
  rintro e w4 ⟨d, v, rfl, o4, hd, hv, h4⟩
  have r4 := o4.blk r3 (by omega)
  obtain ⟨q0, q1⟩ := r4.all2
  have f4 := r4.froz
  obtain ⟨dA, dC, rfl, _⟩ := hd.form
  go_wp2
  have hR := r4.over2 (.int .i64 1) (.slice dA (nums (lineL x)).length dC)
  refine bodyPost_ret (results_cellt rfl _ _ rfl rfl (loadFr hR)) rfl ⟨_, v, rfl, Fr.setCell (Fr.setCell (o03.trans o4) (p := ⟨w.heap.size, 0, none⟩) (fun h => absurd h (Nat.lt_irrefl _)) (.int .i64 1)) (p := ⟨w.heap.size, 1, none⟩) (fun h => absurd h (Nat.lt_irrefl _)) (.slice dA (nums (lineL x)).length dC), ?_, hv, ?_⟩
  · refine (hd.mono s3).fr (One.over2 w4 w.heap.size _ _) fun g hg e => ?_
    have := (hd.block hg).1
    have e : g = w.heap.size := e
    omega
  · exact (h4.far (p := ⟨w.heap.size, 0, none⟩) (by show p ≠ w.heap.size; omega) _).far (p := ⟨w.heap.size, 1, none⟩) (by show p ≠ w.heap.size; omega) _
end Go.Proofs.YtliimglbbiebiaaGreatDoor
end

