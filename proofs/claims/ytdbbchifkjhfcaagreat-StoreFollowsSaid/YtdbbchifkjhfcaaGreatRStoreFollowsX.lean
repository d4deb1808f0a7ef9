/- The walk of StoreFollows: FolP, OpenOp16, DelU, SFol. -/
import Derived.Test.YtdbbchifkjhfcaaGreatGZ16AR
import Derived.Deep.Strs

section
/- What a follower's list becomes by events: plain lemmas. -/
namespace Go.Proofs.YtdbbchifkjhfcaaGreat
open Go.RowKit Go.Maps

/-- A follower's list behind an event. -/
def apl (L : List Int) (e : Ev) : List Int := if e.k = 1 then L ++ [e.u] else if e.k = 2 then L.filter fun y => !(y == e.u) else L
def aplAll (L : List Int) (E : List Ev) : List Int := E.foldl apl L

theorem aplAll_append (L : List Int) (E F : List Ev) : aplAll L (E ++ F) = aplAll (aplAll L E) F := by simp [aplAll]
theorem aplAll_cons (L : List Int) (e : Ev) (E : List Ev) : aplAll L (e :: E) = aplAll (apl L e) E := rfl
theorem apl3 {L : List Int} {e : Ev} (h : e.k = 3) : apl L e = L := by unfold apl; rw [if_neg (by omega), if_neg (by omega)]

theorem later_k {e : Ev} {l : List Ev} (h : later e l = true) : e.k = 3 := by
  have h1 : later e (l.drop 0) = true := h
  exact (later_iff.1 h1).1

theorem apl_squeeze (L : List Int) (E : List Ev) : aplAll L (squeeze E) = aplAll L E := by
  induction E generalizing L with
  | nil => rfl
  | cons e E ih =>
    rw [squeeze]
    by_cases h : later e E = true
    · rw [if_pos h, ih, aplAll_cons, apl3 (later_k h)]
    · rw [if_neg h, aplAll_cons, ih, aplAll_cons]

theorem apl_arrived (L : List Int) (E : List Ev) (n : Int) : aplAll L (E ++ [⟨1, n, 0⟩]) = aplAll L E ++ [n] := by
  rw [aplAll_append]; simp [aplAll, apl]
theorem apl_changed (L : List Int) (E : List Ev) (M : List Msg) (a k m f i : Int) : aplAll L (E ++ chEv M a k m f i) = aplAll L E := by
  unfold chEv
  split
  · rw [aplAll_append]; simp [aplAll, apl]
  · rw [List.append_nil]
theorem apl_gone (L G : List Int) : aplAll L (G.map fun u => ⟨2, u, 0⟩) = L.filter fun y => decide (y ∉ G) := by
  induction G generalizing L with
  | nil =>
    simp only [List.map_nil, aplAll, List.foldl_nil]
    exact (List.filter_eq_self.2 (by simp)).symm
  | cons u G ih =>
    rw [List.map_cons, aplAll_cons, ih]
    have h1 : apl L ⟨2, u, 0⟩ = L.filter fun y => !(y == u) := by simp [apl]
    rw [h1, List.filter_filter]
    refine List.filter_congr fun y _ => ?_
    by_cases h : y = u <;> by_cases h2 : y ∈ G <;> simp [h, h2]
theorem left_gone {M : List Msg} (h : (M.map Msg.uid).Nodup) : ((M.map Msg.uid).filter fun y => decide (y ∉ withL M 4)) = (leftM M).map Msg.uid := by
  rw [← exM_with h]
  unfold exM
  rw [List.filter_map]
  rfl

/-- The law's loop, under way: the follower's list and what it has not heard yet. -/
structure FoR (w wr : World) (base s : Nat) (own : Int) (i : Nat) (S : Sx) (Q : Qs) (M : List Msg) (n t f : Int) (v : Value) (L : List Int) : Prop where
  st : STX w base wr S Q M n t f
  s_ : S.s = s
  cap : S.cap = 20
  ids : Q.ids = [own]
  row : Own (intE .u32) 26 w.heap.size wr v L
  far : ∀ g, v.ownBlock = some g → ¬ S.foot Q g
  inv : aplAll L (Q.l own) = M.map Msg.uid
  ql : (Q.l own).length ≤ 21 * i
  ll : L.length ≤ 21 * i
  n_ : n ≤ i + 1

theorem FoR.more {w wr w' : World} {base s : Nat} {own : Int} {i : Nat} {S : Sx} {Q : Qs} {M : List Msg} {n t f : Int} {v : Value} {L : List Int} (h : FoR w wr base s own i S Q M n t f v L) (hn : New wr w') : FoR w w' base s own i S Q M n t f v L :=
  { h with st := h.st.more hn, row := h.row.new hn }
theorem FoR.next {w wr : World} {base s : Nat} {own : Int} {i : Nat} {S : Sx} {Q : Qs} {M : List Msg} {n t f : Int} {v : Value} {L : List Int} (h : FoR w wr base s own i S Q M n t f v L) : FoR w wr base s own (i + 1) S Q M n t f v L :=
  { h with ql := by have := h.ql; omega, ll := by have := h.ll; omega, n_ := by have := h.n_; omega }
/-- Behind a step of the mailbox. -/
theorem FoR.step {w wr w' : World} {base s : Nat} {own : Int} {i : Nat} {S S' : Sx} {Q Q' : Qs} {M M' : List Msg} {n n' t t' f : Int} {v : Value} {L : List Int} (h : FoR w wr base s own i S Q M n t f v L) (hs : STX w base w' S' Q' M' n' t' f) (hp : Stp wr w' S Q S' Q')
    (hids : Q'.ids = Q.ids) (hinv : aplAll L (Q'.l own) = M'.map Msg.uid) (hq : (Q'.l own).length ≤ (Q.l own).length + 20) (hn : n' ≤ n + 1) : FoR w w' base s own (i + 1) S' Q' M' n' t' f v L :=
  ⟨hs, hp.s.trans h.s_, hp.cap.trans h.cap, hids.trans h.ids, h.row.fr hp.fr h.far, fun g hg => hp.far (h.row.block hg).2 (h.far g hg), hinv, by have := h.ql; omega, by have := h.ll; omega, by have := h.n_; omega⟩

/-- The follower hears the events. -/
structure FlR (w0 wr : World) (base : Nat) (S : Sx) (Q : Qs) (M : List Msg) (n t f : Int) (o : Value) (E : List Ev) (B j : Nat) (v : Value) (L : List Int) : Prop where
  st : STX w0 base wr S Q M n t f
  row : Own (intE .u32) 26 w0.heap.size wr v L
  far : ∀ g, v.ownBlock = some g → ¬ S.foot Q g
  ev : Own evE 36 0 wr o E
  inv : aplAll L (E.drop j) = M.map Msg.uid
  ll : L.length ≤ B + j

/-- The list alone has turned. -/
theorem FlR.turn {w0 wr w' : World} {base : Nat} {S : Sx} {Q : Qs} {M : List Msg} {n t f : Int} {o : Value} {E : List Ev} {B j : Nat} {v v' : Value} {L L' : List Int} (h : FlR w0 wr base S Q M n t f o E B j v L) (hf : Fr (fun k => v.ownBlock = some k) wr w')
    (hrow : Own (intE .u32) 26 w0.heap.size w' v' L') (hl : v'.ownBlock = v.ownBlock ∨ ∃ b, v'.ownBlock = some b ∧ wr.heap.size ≤ b) (hinv : aplAll L' (E.drop (j + 1)) = M.map Msg.uid) (hll : L'.length ≤ L.length + 1) : FlR w0 w' base S Q M n t f o E B (j + 1) v' L' := by
  refine ⟨h.st.keep hf (fun k hk hs => h.far k hs hk) (fun u l hu b hb hs => ?_) (fun k hk => (h.row.block hk).1), hrow, fun g hg hs => ?_, h.ev.fr hf (fun b hb hs => ?_), hinv, by have := h.ll; omega⟩
  · obtain ⟨cs, h9⟩ := hu.heap hb
    obtain ⟨cs', h10⟩ := h.row.heap hs
    exact h9.ne_ h10 (by decide) rfl
  · rcases hl with h1 | ⟨b, h1, h2⟩
    · exact h.far g (h1 ▸ hg) hs
    · rw [h1] at hg
      cases hg
      have := h.st.foot_lt hs
      omega
  · obtain ⟨cs, h9⟩ := h.ev.heap hb
    obtain ⟨cs', h10⟩ := h.row.heap hs
    exact h9.ne_ h10 (by decide) rfl
theorem FlR.more {w0 wr w' : World} {base : Nat} {S : Sx} {Q : Qs} {M : List Msg} {n t f : Int} {o : Value} {E : List Ev} {B j : Nat} {v : Value} {L : List Int} (h : FlR w0 wr base S Q M n t f o E B j v L) (hn : New wr w') : FlR w0 w' base S Q M n t f o E B j v L :=
  { h with st := h.st.more hn, row := h.row.new hn, ev := h.ev.new hn }
theorem FlR.skip {w0 wr : World} {base : Nat} {S : Sx} {Q : Qs} {M : List Msg} {n t f : Int} {o : Value} {E : List Ev} {B j : Nat} {v : Value} {L : List Int} (h : FlR w0 wr base S Q M n t f o E B j v L) (hinv : aplAll L (E.drop (j + 1)) = M.map Msg.uid) : FlR w0 wr base S Q M n t f o E B (j + 1) v L :=
  { h with inv := hinv, ll := by have := h.ll; omega }
theorem apl_step {L : List Int} {E : List Ev} {j : Nat} {e : Ev} (h : E[j]? = some e) : aplAll L (E.drop j) = aplAll (apl L e) (E.drop (j + 1)) := by
  obtain ⟨hl, rfl⟩ := List.getElem?_eq_some_iff.1 h
  rw [List.drop_eq_getElem_cons hl, aplAll_cons]

end Go.Proofs.YtdbbchifkjhfcaaGreat
end

section
/- How an argument that is a slice of calls is opened; calls are few and small. -/
namespace Go.Proofs.YtdbbchifkjhfcaaGreat
open Go.ChangeShapes Go.WideShapes Go.ChangeAt Go.RowKit Go.Deep

/-- A call: its kind, the session, the identifier, the mode, the flags, the body. -/
structure Op16 where
  k : Int
  id : Int
  u : Int
  mode : Int
  fl : Int
  A : Option Addr
  c : Nat
  body : List Int

def Op16.v (o : Op16) : Value := .slice o.A o.body.length o.c

def op16E : Elem Op16 where
  enc o := [.int .i64 o.k, .int .i64 o.id, .int .u32 o.u, .int .i64 o.mode, .int .u8 o.fl, .slice o.A o.body.length o.c]
  sz := 6
  len _ := rfl
  one x u hu := by simp at hu; rcases hu with rfl | rfl | rfl | rfl | rfl | rfl <;> rfl
  pos := by omega

def Op16.ok (W : World) (o : Op16) : Prop := (Lit.int .i64 o.id).wf = true ∧ (0 ≤ o.u ∧ o.u ≤ 4294967295) ∧ (Lit.int .i64 o.mode).wf = true ∧ (0 ≤ o.fl ∧ o.fl ≤ 255) ∧ Rd (intE .u8) W o.v o.body ∧ o.body.length ≤ maxLen

/-- A cell that reads as a slice of bytes. -/
theorem bytes16_of {H : Type} {enc : TypeId × Value → H} {W : World} {sp : Nat → Bool} {held : Bool} {base fuel : Nat} {v : Value} {x : DataW H × List MemPlace}
    (hf : DataW.trod enc Tryz.prog W base sp held fuel 42 [v] = some x) : ∃ A l c, v = .slice A l.length c ∧ Rd (intE .u8) W v l ∧ l.length ≤ maxLen := by
  rcases open_ints Tryz.underlying42 Tryz.underlying5 (by kernel_rfl) hf with ⟨hcs, _⟩ | ⟨x, l, c, zs, hcs, _, hl, hm, hz, _, hcell, hwz⟩
  · simp at hcs
    subst hcs
    exact ⟨none, [], 0, rfl, Rd.nil _ _, by simp⟩
  · simp at hcs
    subst hcs
    have hle : l ≤ zs.length := by rw [hz]; split <;> omega
    have hl0 : (zs.take l).length = l := by rw [List.length_take]; omega
    refine ⟨some x, zs.take l, c, by rw [hl0], ⟨some x, c, by rw [hl0], by rw [hl0]; exact hl, fun hne => ?_⟩, by rw [hl0]; omega⟩
    have hn' : 0 < l := by
      rcases Nat.eq_zero_or_pos l with h0 | h0
      · subst h0; simp at hne
      · exact h0
    obtain ⟨b, off, s⟩ := x
    have h0 := hcell 0 (by omega)
    obtain rfl := spot_none0 h0
    refine ⟨b, off, rfl, fun i y hy j u hu => ?_⟩
    have hi : i < l := by
      have := (List.getElem?_eq_some_iff.1 hy).1
      rwa [hl0] at this
    have hj : j = 0 := by have := (List.getElem?_eq_some_iff.1 hu).1; simp [intE] at this; exact this
    subst hj
    simp [intE] at hu
    subst hu
    have h1 := hcell i (by omega)
    rw [Addr.add_lit] at h1
    rw [List.getElem?_take_of_lt hi] at hy
    simp [List.getD, hy] at h1
    simpa [intE] using h1

theorem op16_fields : oneCellFields Tryz.prog (Tryz.prog.fieldsOf 50) = true := by kernel_rfl
theorem op16_fields_size : Tryz.prog.cellsOf 50 = (Tryz.prog.fieldsOf 50).size := by kernel_rfl
theorem op16_fields6 : (Tryz.prog.fieldsOf 50).size = 6 := by kernel_rfl

set_option maxRecDepth 100000 in
theorem op16s_of {H : Type} {enc : TypeId × Value → H} {W : World} {sp : Nat → Bool} {held : Bool} {base fuel : Nat} {a0 : Option Addr} {len cap : Nat} {x : DataW H × List MemPlace}
    (hf : DataW.trod enc Tryz.prog W base sp held fuel 47 [.slice a0 len cap] = some x) :
    ∃ l : List Op16, (Rd op16E W (.slice a0 len cap) l ∧ (∀ y ∈ l, y.ok W) ∧ l.length ≤ maxLen) ∧ l.length = len := by
  have hst : Tryz.prog.underlying 50 = some (.struct (Tryz.prog.fieldsOf 50)) := by kernel_rfl
  rcases open_slice_fields Tryz.underlying47 hst op16_fields op16_fields_size hf with ⟨hcs, _⟩ | ⟨a, l, c, m, D, Pl, hcs, _, hl, hcm, hm, _, hi⟩
  · simp at hcs
    obtain ⟨rfl, rfl, rfl⟩ := hcs
    exact ⟨[], ⟨Rd.nil _ _, by simp, by simp⟩, rfl⟩
  · simp at hcs
    obtain ⟨rfl, rfl, rfl⟩ := hcs
    rw [op16_fields6] at hi
    have hml : len ≤ m := by rw [hm]; split <;> omega
    have hel : ∀ i, i < len → ∃ o : Op16, o.ok W ∧ ∀ j u, (op16E.enc o)[j]? = some u → W.cell? (a.add (i * 6 + j)) = some u := by
      intro i hil
      obtain ⟨ys, n, _, _, _, hj⟩ := hi i (by omega)
      simp only [Program.fieldsOf, Tryz.underlying50] at hj
      obtain ⟨v0, y0, h0, _, t0⟩ := hj 0 _ rfl
      obtain ⟨v1, y1, h1, _, t1⟩ := hj 1 _ rfl
      obtain ⟨v2, y2, h2, _, t2⟩ := hj 2 _ rfl
      obtain ⟨v3, y3, h3, _, t3⟩ := hj 3 _ rfl
      obtain ⟨v4, y4, h4, _, t4⟩ := hj 4 _ rfl
      obtain ⟨v5, y5, h5, _, t5⟩ := hj 5 _ rfl
      obtain ⟨k, e0, _, w0⟩ := DataW.trod_int Tryz.underlying3 t0
      obtain ⟨id, e1, _, w1⟩ := DataW.trod_int Tryz.underlying3 t1
      obtain ⟨u, e2, _, w2⟩ := DataW.trod_int Tryz.underlying26 t2
      obtain ⟨mo, e3, _, w3⟩ := DataW.trod_int Tryz.underlying3 t3
      obtain ⟨fl, e4, _, w4⟩ := DataW.trod_int Tryz.underlying23 t4
      simp at e0 e1 e2 e3 e4
      subst e0 e1 e2 e3 e4
      obtain ⟨A, l, c, rfl, h6, h7⟩ := bytes16_of t5
      refine ⟨⟨k, id, u, mo, fl, A, c, l⟩, ⟨w1, bounds_u32 w2, w3, bounds_u8 w4, h6, h7⟩, fun j u hu => ?_⟩
      have hj6 : j < 6 := (List.getElem?_eq_some_iff.1 hu).1
      rcases (by omega : j = 0 ∨ j = 1 ∨ j = 2 ∨ j = 3 ∨ j = 4 ∨ j = 5) with rfl | rfl | rfl | rfl | rfl | rfl <;> (simp [op16E] at hu; subst hu; assumption)
    obtain ⟨g, hg⟩ : ∃ g : Nat → Op16, ∀ i, i < len → (g i).ok W ∧ ∀ j u, (op16E.enc (g i))[j]? = some u → W.cell? (a.add (i * 6 + j)) = some u :=
      ⟨fun i => if h : i < len then Classical.choose (hel i h) else ⟨0, 0, 0, 0, 0, none, 0, []⟩, fun i h => by simp only [h, dif_pos]; exact Classical.choose_spec (hel i h)⟩
    have hln : ((List.range len).map g).length = len := by simp
    refine ⟨(List.range len).map g, ⟨⟨some a, cap, by rw [hln], by rw [hln]; exact hl, fun hne => ?_⟩, fun y hy => ?_, by omega⟩, hln⟩
    · obtain ⟨b, off, s⟩ := a
      have hlen : 0 < len := by
        rcases Nat.eq_zero_or_pos len with h0 | h0
        · subst h0; simp at hne
        · exact h0
      have hs0 := (hg 0 hlen).2 0 _ rfl
      rw [Nat.zero_mul, Nat.zero_add] at hs0
      obtain rfl := spot_none0 hs0
      refine ⟨b, off, rfl, fun i x hx j u hu => ?_⟩
      have hil : i < len := by
        have := (List.getElem?_eq_some_iff.1 hx).1
        rwa [hln] at this
      rw [List.getElem?_map, List.getElem?_range hil] at hx
      simp only [Option.map_some, Option.some.injEq] at hx
      subst hx
      have h0 := (hg i hil).2 j u hu
      rwa [Addr.add_lit] at h0
    · obtain ⟨i, hi2, rfl⟩ := List.mem_map.1 hy
      exact (hg i (List.mem_range.1 hi2)).1

set_option maxRecDepth 100000 in
/-- An argument that is a slice of calls. -/
theorem open_op16s {H : Type} {enc : TypeId × Value → H} {W : World} {base : Nat} {v : Value} {d : DataW H} {p : List MemPlace}
    (hv : Value.okWide Tryz.prog W .any base 47 v) (h : DataW.Trod enc Tryz.prog W 0 (fun _ => true) true 47 v d p) :
    ∃ x : Value × List Op16, v = x.1 ∧ (Rd op16E W x.1 x.2 ∧ (∀ y ∈ x.2, y.ok W) ∧ x.2.length ≤ maxLen) := by
  obtain ⟨a0, len0, cap0, rfl⟩ := okWide_slice Tryz.underlying47 hv
  obtain ⟨fuel, hf⟩ := h
  obtain ⟨l, hl, _⟩ := op16s_of hf
  exact ⟨(_, l), rfl, hl⟩

/-- Calls are few and small. -/
def few16 (l : List Op16) : Bool := (l.all fun o => decide (o.body.length ≤ 200)) && decide (l.length ≤ 60)

set_option maxRecDepth 100000 in
set_option maxHeartbeats 1600000 in
theorem few16_any {v : Value} {w : World} {l : List Op16} (hv : Rd op16E w v l) (hl : l.length ≤ maxLen) :
    Calls Tryz.prog 18 #[v] w fun e w' => e = .returned (.int .i64 (if few16 l then 1 else 0)) ∧ New w w' := by
  obtain ⟨A, c, rfl, hlc, hcells⟩ := hv
  have HC := Lib.hid hcells
  obtain ⟨r, hr⟩ : ∃ r : Int, (if few16 l then 1 else 0) = r := ⟨_, rfl⟩
  rw [hr]
  have HR := Lib.hid hr
  clear hcells hr
  unfold maxLen at hl
  go_enter Tryz.func18, Tryz.ntmps18
  go_wp2
  go_loopw [7] (fun vi wr => ∃ j : Nat, vi = .int .i64 j ∧ j ≤ l.length ∧ Hid ((l.take j).all (fun o => decide (o.body.length ≤ 200)) = true) ∧ New w wr) (fun vi _ => l.length - (intOf vi).toNat)
  case atStart => exact ⟨0, rfl, Nat.zero_le _, rfl, New.refl _⟩
  case round =>
    obtain ⟨j, rfl, hj, HA, hnew⟩ := hrel
    by_cases hlt : j < l.length
    · have hd : decide ((j : Int) < l.length) = true := decide_eq_true (by omega)
      obtain ⟨o, hx⟩ : ∃ o, l[j]? = some o := ⟨_, List.getElem?_eq_getElem hlt⟩
      obtain ⟨b, off, rfl, hcell⟩ := HC.out (by rintro rfl; simp at hlt)
      have hmem : o ∈ l := List.mem_iff_getElem?.2 ⟨j, hx⟩
      have HTK := Lib.hid (take_snoc hx)
      have hc0 := Fr.cell hnew (hcell j _ hx 0 _ rfl) id
      have hc1 := Fr.cell hnew (hcell j _ hx 1 _ rfl) id
      have hc2 := Fr.cell hnew (hcell j _ hx 2 _ rfl) id
      have hc3 := Fr.cell hnew (hcell j _ hx 3 _ rfl) id
      have hc4 := Fr.cell hnew (hcell j _ hx 4 _ rfl) id
      have hc5 := Fr.cell hnew (hcell j _ hx 5 _ rfl) id
      obtain ⟨k, id_, u, mo, fl, xA, xc, body⟩ := o
      have c0 : wr.cell? ⟨b, off + j * 6, none⟩ = some (.int .i64 k) := hc0
      have c1 : wr.cell? ⟨b, off + j * 6 + 1, none⟩ = some (.int .i64 id_) := hc1
      have c2 : wr.cell? ⟨b, off + j * 6 + 2, none⟩ = some (.int .u32 u) := hc2
      have c3 : wr.cell? ⟨b, off + j * 6 + 3, none⟩ = some (.int .i64 mo) := hc3
      have c4 : wr.cell? ⟨b, off + j * 6 + 4, none⟩ = some (.int .u8 fl) := hc4
      have c5 : wr.cell? ⟨b, off + j * 6 + 5, none⟩ = some (.slice xA body.length xc) := hc5
      have hkI : (j : Int) < l.length := by omega
      have hw : IntKind.i64.wrap ((j : Int) + 1) = (j : Int) + 1 := IntWalk.i64_in _ (by omega)
      clear hcell hc0 hc1 hc2 hc3 hc4 hc5
      rcases Nat.lt_or_ge 200 body.length with hb | hb
      · have hbd : decide ((200 : Int) < body.length) = true := decide_eq_true (by omega)
        have hbd2 : decide (200 < body.length) = true := decide_eq_true hb
        have hf : few16 l = false := by
          unfold few16
          rw [Bool.and_eq_false_iff]
          refine .inl ?_
          rw [List.all_eq_false]
          exact ⟨_, hmem, by simp; omega⟩
        have HF := Lib.hid hf
        clear hf hx hmem
        go_wp2
        go_ret
        exact ⟨by rw [← HR.out, HF.out]; rfl, hnew.alloc _⟩
      · have hbd : decide ((200 : Int) < body.length) = false := decide_eq_false (by omega)
        have hbd2 : decide (200 < body.length) = false := decide_eq_false (by omega)
        have ha : (l.take (j + 1)).all (fun o => decide (o.body.length ≤ 200)) = true := by
          rw [HTK.out, List.all_append, HA.out]
          simp
          exact hb
        have HA2 := Lib.hid ha
        clear hx hmem ha
        go_wp2
        go_roundw
        case rel => exact ⟨j + 1, by go_num, by omega, HA2.out, hnew.alloc _⟩
        case measure => simp [intOf]; omega
    · have hd : decide ((j : Int) < l.length) = false := decide_eq_false (by omega)
      have ha := HA.out
      rw [List.take_of_length_le (by omega)] at ha
      by_cases h60 : l.length ≤ 60
      · have hq : decide (60 < l.length) = false := decide_eq_false (by omega)
        have hq2 : decide ((60 : Int) < l.length) = false := decide_eq_false (by omega)
        have hf : few16 l = true := by unfold few16; rw [ha, decide_eq_true h60]; rfl
        have HF := Lib.hid hf
        clear ha hf
        go_wp2
        go_ret
        exact ⟨by rw [← HR.out, HF.out]; rfl, hnew⟩
      · have hq : decide (60 < l.length) = true := decide_eq_true (by omega)
        have hq2 : decide ((60 : Int) < l.length) = true := decide_eq_true (by omega)
        have hf : few16 l = false := by unfold few16; rw [ha, decide_eq_false h60]; rfl
        have HF := Lib.hid hf
        clear ha hf
        go_wp2
        go_ret
        exact ⟨by rw [← HR.out, HF.out]; rfl, hnew⟩

end Go.Proofs.YtdbbchifkjhfcaaGreat
end

section
/- The library's IndexFunc and DeleteFunc at uint32. -/
namespace Go.Proofs.YtdbbchifkjhfcaaGreat
open Go.RowKit

/-- The function g, that has caught lb, tells p, in each world that has turned nothing of w. -/
def IsPredU (w : World) (g : Nat) (lb : Array Value) (p : Int → Bool) : Prop :=
  ∀ (W : World) (x : Int), New w W → Calls Tryz.prog g (#[.int .u32 x] ++ lb) W fun e w' => e = .returned (.bool (p x)) ∧ w' = W

def FirstAtU (p : Int → Bool) (l : List Int) (i : Int) : Prop := (i = -1 ∧ ∀ x ∈ l, p x = false) ∨ ∃ (k : Nat) (x : Int), i = k ∧ l[k]? = some x ∧ p x = true ∧ ∀ y ∈ l.take k, p y = false

set_option maxHeartbeats 1600000 in
theorem uindexFunc (g : Nat) (lb : Array Value) (p : Int → Bool) (hE : ∀ args w, (callFunc g args).run Tryz.prog w = .ok (.enter g args) w) (v : Value) (l : List Int) (w : World) (hp : IsPredU w g lb p) (hv : Rd (intE .u32) w v l) (hl : l.length ≤ 1000000) :
    Calls Tryz.prog 42 #[v, .func (.func g) #[] lb] w fun e w' => ∃ i : Int, e = .returned (.int .i64 i) ∧ FirstAtU p l i ∧ w' = w := by
  obtain ⟨A, c, rfl, hc, hcells⟩ := hv.ints
  have HC := Lib.hid hcells
  clear hcells hv
  go_enter Tryz.func42, Tryz.ntmps42
  go_wp2
  go_loopw [8] (fun vi wr => ∃ k : Nat, k ≤ l.length ∧ vi = .int .i64 k ∧ Hid (∀ x, x ∈ l.take k → p x = false) ∧ wr = w) (fun vi _ => l.length - (intOf vi).toNat)
  case atStart => exact ⟨0, Nat.zero_le _, rfl, fun x hx => by simp at hx, rfl⟩
  case round =>
    obtain ⟨k, hk, rfl, HS, rfl⟩ := hrel
    by_cases hkl : k < l.length
    · obtain ⟨x, hx⟩ : ∃ x, l[k]? = some x := ⟨_, List.getElem?_eq_getElem hkl⟩
      obtain ⟨b, off, rfl, hcell⟩ := HC.out (by rintro rfl; simp at hkl)
      have c0 := hcell k x hx
      have HX := Lib.hid hx
      clear hcell hx
      have hcall := hp wr x (New.refl _)
      cases hpx : p x
      all_goals
        rw [hpx] at hcall
        have HP := Lib.hid hpx
        have HCALL := Lib.hid hcall
        clear hpx hcall
        go_wp2_with fail
        refine HCALL.out.mono ?_
        rintro e w1 ⟨rfl, rfl⟩
        go_wp2
      · go_roundw
        case rel =>
          refine ⟨k + 1, by omega, by go_num, fun x hx => ?_, by first | rfl | trivial⟩
          rw [take_snoc HX.out] at hx
          rcases List.mem_append.1 hx with hx | hx
          · exact HS.out x hx
          · rw [List.mem_singleton.1 hx]; exact HP.out
        case measure => simp [intOf]; omega
      · go_ret
        exact ⟨_, rfl, .inr ⟨k, _, rfl, HX.out, HP.out, HS.out⟩, rfl⟩
    · go_wp2
      go_ret
      refine ⟨_, rfl, .inl ⟨rfl, fun x hx => ?_⟩, rfl⟩
      exact HS.out x (by rw [List.take_of_length_le (by omega)]; exact hx)

set_option maxHeartbeats 3200000 in
/-- DeleteFunc over a row that is new since w0, where the predicate was made. -/
theorem udeleteFunc (g : Nat) (lb : Array Value) (p : Int → Bool) (hE : ∀ args w, (callFunc g args).run Tryz.prog w = .ok (.enter g args) w) (v : Value) (l : List Int) (base : Nat) (w : World) (hp : ∀ W, Fr (fun k => v.ownBlock = some k) w W → IsPredU W g lb p)
    (hv : Own (intE .u32) 26 base w v l) (hl : l.length ≤ 100000) :
    Calls Tryz.prog 19 #[v, .func (.func g) #[] lb] w fun e w' => ∃ o, e = .returned o ∧ Own (intE .u32) 26 base w' o (l.filter fun x => !p x) ∧ Fr (fun k => v.ownBlock = some k) w w' ∧ (o.ownBlock = v.ownBlock) := by
  have hzero : ∀ w, (zeroValue 26).run Tryz.prog w = .ok (.int .u32 0) w := fun w => by kernel_rfl
  have hidx := uindexFunc g lb p hE v l w (hp w (Fr.refl _ _)) hv.rd (by omega)
  obtain ⟨A, c, rfl, hc⟩ := hv.form
  have HP0 := Lib.hid hp
  have HI := Lib.hid hidx
  clear hp hidx
  obtain ⟨r, hr⟩ : ∃ r, r = l.filter fun x => !p x := ⟨_, rfl⟩
  rw [← hr]
  have HRE := Lib.hid hr
  clear hr
  go_enter Tryz.func19, Tryz.ntmps19
  go_wp2_with fail
  refine HI.out.mono ?_
  rintro e w1 ⟨i, rfl, hfirst, rfl⟩
  rcases hfirst with ⟨rfl, hall⟩ | ⟨k, x, rfl, hx, hpx, hbef⟩
  · have hfl : (l.filter fun x => !p x) = l := List.filter_eq_self.2 fun x hx => by simp [hall x hx]
    have hr := HRE.out.trans hfl
    subst hr
    clear hfl hall HRE
    go_wp2
    go_ret
    exact ⟨_, rfl, hv, Fr.refl _ _, rfl⟩
  · have hkl : k < l.length := (List.getElem?_eq_some_iff.1 hx).1
    have hstart : l.take k = (l.take (k + 1)).filter fun x => !p x := by
      rw [take_snoc hx, List.filter_append, List.filter_eq_self.2 fun y hy => by simp [hbef y hy]]
      simp [hpx]
    have HSTART := Lib.hid hstart
    clear hx hpx hbef hstart HI
    obtain ⟨gg, rfl⟩ := hv.some_ (by omega)
    obtain ⟨wo, rfl⟩ : ∃ wo : World, wo = w1 := ⟨_, rfl⟩
    have hkb : ((k : Int) == -1) = false := by simp
    have HV := Lib.hid hv
    clear hv
    go_wp2
    go_loopw [5, 6] (fun vi vj wr => ∃ (i j : Nat) (m : List Int), i < j ∧ j ≤ l.length ∧ vi = .int .i64 i ∧ vj = .int .i64 j ∧ m.length = l.length ∧ Hid (m.take i = (l.take j).filter fun x => !p x) ∧ Hid (∀ t, j ≤ t → m[t]? = l[t]?) ∧
      Own (intE .u32) 26 base wr (.slice (some ⟨gg, 0, none⟩) l.length c) m ∧ Fr (fun q => gg = q) wo wr) (fun _ vj _ => l.length - (intOf vj).toNat)
    case atStart => exact ⟨k, k + 1, l, by omega, by omega, rfl, by go_num, rfl, HSTART.out, fun _ _ => rfl, HV.out, Fr.refl _ _⟩
    case round =>
      obtain ⟨i, j, m, hij, hjl, rfl, rfl, hm, HT, HR, ho, hf⟩ := hrel
      by_cases hjn : j < l.length
      · obtain ⟨x, hx⟩ : ∃ x, l[j]? = some x := ⟨_, List.getElem?_eq_getElem hjn⟩
        have hxm : m[j]? = some x := by rw [HR.out j (Nat.le_refl _)]; exact hx
        obtain ⟨y, hy⟩ : ∃ y, m[i]? = some y := ⟨_, List.getElem?_eq_getElem (by omega)⟩
        have hsn := filter_snoc (fun x => !p x) hx
        have c0 : wr.cell? ⟨gg, j, none⟩ = some (.int .u32 x) := ho.icell hxm
        have ci : wr.cell? ⟨gg, i, none⟩ = some (.int .u32 y) := ho.icell hy
        have fi := ho.ifrozen i
        have hcall := HP0.out wr (fr_or hf fun _ h => by rw [h]; rfl) wr x (New.refl _)
        have hil : i < m.length := by omega
        have s2 := ho.istored i x
        have S2 := Lib.hid s2
        have HSN := Lib.hid hsn
        have HF := Lib.hid hf
        have HO := Lib.hid ho
        have hiI : (i : Int) < l.length := by omega
        have hjI : (j : Int) < l.length := by omega
        clear hx hxm hsn hy s2 hf ho
        cases hpx : p x
        · rw [hpx] at hcall
          have HPX := Lib.hid hpx
          have HCALL := Lib.hid hcall
          clear hpx hcall
          go_wp2_with fail
          refine HCALL.out.mono ?_
          rintro e w2 ⟨rfl, rfl⟩
          go_wp2
          go_roundw
          case rel =>
            refine ⟨i + 1, j + 1, m.set i x, by omega, by omega, by go_num, by go_num, by rw [List.length_set]; exact hm, ?_, ?_, S2.out, ?_⟩
            · show (m.set i x).take (i + 1) = _
              rw [HSN.out, HPX.out, take_snoc (List.getElem?_set_self hil), List.take_set_of_le (Nat.le_refl _), HT.out]
              simp
            · intro t ht
              rw [List.getElem?_set_ne (by omega)]
              exact HR.out t (by omega)
            · exact Fr.setCell (p := ⟨gg, i, none⟩) HF.out (fun _ => rfl) _
          case measure => simp [intOf]; omega
        · rw [hpx] at hcall
          have HPX := Lib.hid hpx
          have HCALL := Lib.hid hcall
          clear hpx hcall
          go_wp2_with fail
          refine HCALL.out.mono ?_
          rintro e w2 ⟨rfl, rfl⟩
          go_wp2
          go_roundw
          case rel =>
            refine ⟨i, j + 1, m, by omega, by omega, rfl, by go_num, hm, ?_, fun t ht => HR.out t (by omega), HO.out, HF.out⟩
            show m.take i = _
            rw [HSN.out, HPX.out, HT.out]
            simp
          case measure => simp [intOf]; omega
      · obtain rfl : j = l.length := by omega
        have ht := HT.out
        rw [List.take_length] at ht
        have hr := HRE.out.trans ht.symm
        subst hr
        clear ht HRE
        have hz1 : ∀ u ∈ (Value.int .u32 0).cells.toList, u.oneCell' = true := by
          intro u hu
          have hu2 : u ∈ [Value.int .u32 0] := hu
          simp only [List.mem_cons, List.not_mem_nil, or_false] at hu2
          subst hu2
          rfl
        obtain ⟨w3, hr3, ho3, hf3⟩ := run_clear_own (P := Tryz.prog) (E := intE .u32) (ty := 0) Tryz.underlying27 hzero rfl hz1 ho i (c - i) (by omega)
        have hr3' : (Builtin.clear_ #[27] 0 #[.slice (some ⟨gg, i, none⟩) (l.length - i) (c - i)]).run Tryz.prog wr = .ok (.tuple #[]) w3 := by
          have h1 : (intE .u32).sz = 1 := rfl
          rw [h1, Nat.mul_one] at hr3
          exact hr3
        clear hr3
        go_wp2
        go_ret
        have hf13 : Fr (fun q => gg = q) wo w3 := hf.trans (fr_or hf3 fun _ h => h.symm)
        exact ⟨_, rfl, ho3, fr_or hf13 fun _ h => by rw [h]; rfl, rfl⟩

end Go.Proofs.YtdbbchifkjhfcaaGreat
end

section
/- StoreFollows: the walk. -/
namespace Go.Proofs.YtdbbchifkjhfcaaGreat
open Go.RowKit Go.Maps

set_option maxHeartbeats 400000 in
theorem law1_any (x u : Int) (g : Nat) (w : World) (hg : w.cell? ⟨g, 1, none⟩ = some (.int .u32 u)) : Calls Tryz.prog 20 #[.int .u32 x, .pointer (some ⟨g, 0, none⟩)] w fun e w' => e = .returned (.bool (x == u)) ∧ w' = w := by
  go_enter Tryz.func20, Tryz.ntmps20
  go_wp2
  go_ret
  exact ⟨rfl, rfl⟩

set_option maxRecDepth 100000 in
set_option maxHeartbeats 1600000 in
theorem fol_few (x : Value × List Op16) (id : Int) (w : World) (hx : Rd op16E w x.1 x.2 ∧ (∀ y ∈ x.2, y.ok w) ∧ x.2.length ≤ maxLen) (hq : few16 x.2 = false) :
    Calls Tryz.prog 5 #[x.1, .int .u8 id] w fun e w' => e = .returned (.bool true) ∧ New w w' := by
  obtain ⟨v, l⟩ := x
  obtain ⟨hrd, _, hlm⟩ := hx
  dsimp only at hrd hlm hq ⊢
  have hf := few16_any hrd hlm
  rw [hq] at hf
  have HF := Lib.hid hf
  obtain ⟨A, c, rfl, _⟩ := hrd
  clear hf hq
  go_enter Tryz.func5, Tryz.ntmps5
  go_wp2_with fail
  refine HF.out.mono ?_
  rintro e w1 ⟨rfl, hn1⟩
  go_wp2_with fail
  refine (malive_any _).mono ?_
  rintro e w2 ⟨rfl, hn2⟩
  go_wp2
  go_ret
  exact ⟨rfl, hn1.trans hn2⟩

set_option maxRecDepth 100000 in
set_option maxHeartbeats 12800000 in
theorem fol_main (x : Value × List Op16) (id : Int) (w : World) (hx : Rd op16E w x.1 x.2 ∧ (∀ y ∈ x.2, y.ok w) ∧ x.2.length ≤ maxLen) (hq : few16 x.2 = true) (hid0 : 0 ≤ id) (hid1 : id ≤ 255) :
    Calls Tryz.prog 5 #[x.1, .int .u8 id] w fun e w' => e = .returned (.bool true) ∧ New w w' := by
  obtain ⟨v, l⟩ := x
  obtain ⟨hrd, hin, hlm⟩ := hx
  dsimp only at hrd hin hlm hq ⊢
  have hf := few16_any hrd hlm
  have hl60 : l.length ≤ 60 := by
    unfold few16 at hq
    rw [Bool.and_eq_true] at hq
    simpa using hq.2
  have hbl : ∀ o ∈ l, o.body.length ≤ 200 := by
    unfold few16 at hq
    rw [Bool.and_eq_true, List.all_eq_true] at hq
    exact fun o ho => by simpa using hq.1 o ho
  rw [hq] at hf
  have HF := Lib.hid hf
  obtain ⟨A, c, rfl, hlc, hcells⟩ := hrd
  obtain ⟨i0, hi0, hz0, hz1, hz2⟩ := info_parts u32_info
  have HC := Lib.hid hcells
  have HIN := Lib.hid hin
  have HBL := Lib.hid hbl
  have hidw : IntKind.i64.wrap id = id := IntWalk.i64_in _ (by omega)
  obtain ⟨own, hown⟩ : ∃ own : Int, 1000 + id = own := ⟨_, rfl⟩
  have howw : IntKind.i64.wrap (1000 + id) = own := by rw [hown]; exact IntWalk.i64_in _ (by omega)
  have hob : 1000 ≤ own ∧ own ≤ 1255 := by omega
  clear hf hq hin hcells hlm hown hbl
  go_enter Tryz.func5, Tryz.ntmps5
  go_wp2_with fail
  refine HF.out.mono ?_
  rintro e w0 ⟨rfl, hnw0⟩
  go_wp2_with fail
  refine (snew_any 3 (by omega) (by omega) 20 (by omega) (by omega) 1 (by omega) (by omega) _).mono ?_
  rintro e w1 ⟨S, base, rfl, hcap, _, hS⟩
  rw [show max (1 : Int) 1 = 1 by decide] at hS
  have HS := Lib.hid hS
  have HCAP := Lib.hid hcap
  clear hS hcap
  go_wp2_with fail
  refine (ssub_any HS.out own (by omega) (by omega) (by simp [Qs.none]) (by simp [Qs.none])).mono ?_
  rintro e w2 ⟨vA, vc, b, rfl, hrow, hS2, _, _⟩
  have hw01 := HS.out.new.size
  have HR0 : Hid (FoR w0 w2 base S.s own 0 S (Qs.none.add own b) [] 1 0 1 (.slice vA 0 vc) []) := Lib.hid ⟨hS2, rfl, HCAP.out, rfl, hrow.mono hw01, fun g hg hs => by
      have h1 := (hrow.block hg).1
      have hlt : S.foot Qs.none g → False := fun h => by have := HS.out.foot_lt h; omega
      rcases hs with hk | hk | hk | hk | hk | hk | hk
      · exact hlt (.inl hk)
      · exact hlt (.inr (.inl hk))
      · exact hlt (.inr (.inr (.inl hk)))
      · exact hlt (.inr (.inr (.inr (.inl hk))))
      · exact hlt (.inr (.inr (.inr (.inr (.inl hk)))))
      · exact hlt (.inr (.inr (.inr (.inr (.inr (.inl hk))))))
      · rcases Qs.add_foot hk with hk | hk
        · exact hlt (.inr (.inr (.inr (.inr (.inr (.inr hk))))))
        · have h2 := (hS2.qx.que own (by simp [Qs.add, Qs.none])).blk
          have h3 : (Qs.none.add own b).b own = b := by simp [Qs.add]
          rw [h3] at h2
          obtain ⟨cs, h4⟩ := hrow.heap hg
          exact h4.ne_ h2 (by decide) hk, by simp [aplAll, Qs.add], by simp [Qs.add], by simp, by simp⟩
  clear hrow hS2
  go_wp2
  go_loopw [7, 31] (fun vl vi wr => ∃ (i : Nat) (Sj : Sx) (Q : Qs) (M : List Msg) (n t : Int) (ul : Value) (L : List Int), vl = ul ∧ vi = .int .i64 i ∧ i ≤ l.length ∧ Hid (FoR w0 wr base S.s own i Sj Q M n t 1 ul L)) (fun _ vi _ => l.length - (intOf vi).toNat)
  case atStart => exact ⟨0, S, _, [], 1, 0, _, [], rfl, rfl, Nat.zero_le _, HR0.out⟩
  case round =>
    obtain ⟨i, Sj, Q, M, n, t, ul, L, rfl, rfl, hi, HR⟩ := hrel
    clear HR0
    obtain ⟨lA, ln, lc, rfl⟩ := own_shape HR.out.row
    have HPS : Hid (Value.pointer (some ⟨Sj.s, 0, none⟩) = .pointer (some ⟨S.s, 0, none⟩)) := Lib.hid (by rw [HR.out.s_])
    by_cases hlt : i < l.length
    · have hd : decide ((i : Int) < l.length) = true := decide_eq_true (by omega)
      have hw1 : IntKind.i64.wrap ((i : Int) + 1) = (i : Int) + 1 := IntWalk.i64_in _ (by omega)
      obtain ⟨o, ho⟩ : ∃ o, l[i]? = some o := ⟨_, List.getElem?_eq_getElem hlt⟩
      obtain ⟨b, off, rfl, hcell⟩ := HC.out (by rintro rfl; simp at hlt)
      have hmem : o ∈ l := List.mem_iff_getElem?.2 ⟨i, ho⟩
      have hok := HIN.out o hmem
      have hb2 := HBL.out o hmem
      have hnew : New w wr := hnw0.trans HR.out.st.new
      have hc0 := Fr.cell hnew (hcell i _ ho 0 _ rfl) (fun h => h)
      have hc1 := Fr.cell hnew (hcell i _ ho 1 _ rfl) (fun h => h)
      have hc2 := Fr.cell hnew (hcell i _ ho 2 _ rfl) (fun h => h)
      have hc3 := Fr.cell hnew (hcell i _ ho 3 _ rfl) (fun h => h)
      have hc4 := Fr.cell hnew (hcell i _ ho 4 _ rfl) (fun h => h)
      have hc5 := Fr.cell hnew (hcell i _ ho 5 _ rfl) (fun h => h)
      obtain ⟨k, sid, u, mo, fl, xA, xc, body⟩ := o
      have q0 : wr.cell? ⟨b, off + i * 6, none⟩ = some (.int .i64 k) := hc0
      have q1 : wr.cell? ⟨b, off + i * 6 + 1, none⟩ = some (.int .i64 sid) := hc1
      have q2 : wr.cell? ⟨b, off + i * 6 + 2, none⟩ = some (.int .u32 u) := hc2
      have q3 : wr.cell? ⟨b, off + i * 6 + 3, none⟩ = some (.int .i64 mo) := hc3
      have q4 : wr.cell? ⟨b, off + i * 6 + 4, none⟩ = some (.int .u8 fl) := hc4
      have q5 : wr.cell? ⟨b, off + i * 6 + 5, none⟩ = some (.slice xA body.length xc) := hc5
      have hiI : (i : Int) < l.length := by omega
      have hna : New wr (wr.alloc (.cells #[.int .i64 k, .int .i64 sid, .int .u32 u, .int .i64 mo, .int .u8 fl, .slice xA body.length xc] 50)) := (New.refl _).alloc _
      have HRA := Lib.hid (HR.out.more hna)
      obtain ⟨_, hu, hmo, hfl, hbd, _⟩ := hok
      dsimp only at hu hmo hfl
      simp only [Op16.v] at hbd
      have HBD := Lib.hid hbd
      have HBW := Lib.hid (hbd.new (hnew.trans hna))
      have hb2' : body.length ≤ 200 := hb2
      have HFAR : Hid (∀ b', Value.ownBlock (.slice xA body.length xc) = some b' → body ≠ [] → ¬ Sj.foot Q b') := Lib.hid (fun b' hb' hne hs => by
        have h1 := HBD.out.cell_lt hb' hne
        have h2 := hnw0.size
        exact HR.out.st.not_lo (by omega) hs)
      have hQ : ∀ j ∈ Q.ids, (Q.l j).length ≤ 5000 := fun j hj => by
        rw [HR.out.ids] at hj
        rw [List.mem_singleton.1 hj]
        have := HR.out.ql
        omega
      have HQ := Lib.hid hQ
      have hM20 : M.length ≤ 20 := by have := HR.out.st.len; rw [HR.out.cap] at this; omega
      have HN := Lib.hid HR.out.n_
      have hn1 := HR.out.st.n1
      clear hcell hc0 hc1 hc2 hc3 hc4 hc5 ho hmem hna hbd hQ hnew hb2
      by_cases hk0 : k = 0
      · have hb0 : (k == 0) = true := by simp [hk0]
        clear hk0
        by_cases hfl31 : 31 < fl
        · have hap := sappend_range Sj.s (wr.alloc (.cells #[.int .i64 k, .int .i64 sid, .int .u32 u, .int .i64 mo, .int .u8 fl, .slice xA body.length xc] 50)) fl xA body.length xc (.inl hfl31)
          rw [HPS.out] at hap
          have HAP := Lib.hid hap
          clear hap
          go_wp2_with fail
          refine HAP.out.mono ?_
          rintro e w3 ⟨rfl, hn3⟩
          go_wp2
          go_roundw
          case rel => exact ⟨i + 1, Sj, Q, M, n, t, _, L, rfl, by go_num, by omega, (HRA.out.more hn3).next⟩
          case measure => simp [intOf]; omega
        · by_cases hfull : M.length = 20
          · have hap := sappend_full HRA.out.st (by rw [HR.out.cap, hfull]; rfl) fl (by omega) xA body.length xc (by omega)
            rw [HPS.out] at hap
            have HAP := Lib.hid hap
            clear hap hfull
            go_wp2_with fail
            refine HAP.out.mono ?_
            rintro e w3 ⟨rfl, hn3⟩
            go_wp2
            go_roundw
            case rel => exact ⟨i + 1, Sj, Q, M, n, t, _, L, rfl, by go_num, by omega, (HRA.out.more hn3).next⟩
            case measure => simp [intOf]; omega
          · have hap := sappend_any HRA.out.st (by rw [HR.out.cap]; omega) (by have := HN.out; omega) (fun j hj => by have := HQ.out j hj; omega) fl (by omega) xA body.length xc body HBW.out (by omega) HFAR.out
            rw [HPS.out] at hap
            have HAP := Lib.hid hap
            clear hap hfull
            go_wp2_with fail
            refine HAP.out.mono ?_
            rintro e w3 ⟨rfl, u', v', hS3, hF3, hu3, hv3⟩
            have hR3 := HRA.out.step hS3 (append_stp (p := fun _ => true) (ev := ⟨1, n, 0⟩) hF3 hu3 hv3) rfl (by
              show aplAll L (toldL (fun _ => true) ⟨1, n, 0⟩ Q own) = _
              simp only [toldL, if_true]
              rw [apl_arrived, HR.out.inv, List.map_append]
              rfl) (by
              show (toldL (fun _ => true) ⟨1, n, 0⟩ Q own).length ≤ _
              simp only [toldL, if_true, List.length_append, List.length_singleton]
              omega) (Int.le_refl _)
            have HR3 := Lib.hid hR3
            clear hS3 hF3 hu3 hv3 hR3
            go_wp2
            go_roundw
            case rel => exact ⟨i + 1, { Sj with u := u' }, Q.told (fun _ => true) ⟨1, n, 0⟩ v', _, _, _, _, L, rfl, by go_num, by omega, HR3.out⟩
            case measure => simp [intOf]; omega
      · have hb0 : (k == 0) = false := by simp [hk0]
        by_cases hk1 : k = 1
        · have hb1 : (k == 1) = true := by simp [hk1]
          clear hk0 hk1
          have hch := schange_any HRA.out.st (fun j hj => by have := HQ.out j hj; omega) sid u mo fl hu.1 hu.2 hfl hmo
          rw [HPS.out] at hch
          have HCH := Lib.hid hch
          clear hch
          go_wp2_with fail
          refine HCH.out.mono ?_
          rintro e w3 ⟨rfl, Q3, hS3, hp3, hids3, hl3⟩
          have hR3 := HRA.out.step hS3 hp3 hids3 (by rw [hl3, apl_changed, HR.out.inv, flM_uid]) (by
            rw [hl3, List.length_append]
            unfold chEv
            split <;> simp) (by omega)
          have HR3 := Lib.hid hR3
          clear hS3 hp3 hids3 hl3 hR3
          go_wp2
          go_roundw
          case rel => exact ⟨i + 1, Sj, Q3, _, n, t, _, L, rfl, by go_num, by omega, HR3.out⟩
          case measure => simp [intOf]; omega
        · have hb1 : (k == 1) = false := by simp [hk1]
          by_cases hk2 : k = 2
          · have hb2 : (k == 2) = true := by simp [hk2]
            clear hk0 hk1 hk2
            have hex := sexpunge_any HRA.out.st (fun j hj => by have := HQ.out j hj; omega)
            rw [HPS.out] at hex
            have HEX := Lib.hid hex
            have HND : Hid ((M.map Msg.uid).Nodup) := Lib.hid HR.out.st.nd
            clear hex
            go_wp2_with fail
            refine HEX.out.mono ?_
            rintro e w3 ⟨eA, ec, S3, Q3, rfl, _, hS3, hp3, hids3, hl3, _⟩
            have hR3 := HRA.out.step hS3 hp3 hids3 (by rw [hl3, aplAll_append, HR.out.inv, apl_gone, left_gone HND.out]) (by
              rw [hl3, List.length_append, List.length_map]
              have : (withL M 4).length ≤ M.length := by unfold withL; rw [List.length_map]; exact List.length_filter_le _ _
              omega) (by omega)
            have HR3 := Lib.hid hR3
            clear hS3 hp3 hids3 hl3 hR3
            go_wp2
            go_roundw
            case rel => exact ⟨i + 1, S3, Q3, _, n, t, _, L, rfl, by go_num, by omega, HR3.out⟩
            case measure => simp [intOf]; omega
          · have hb2 : (k == 2) = false := by simp [hk2]
            by_cases hk56 : k = 5 ∨ k = 6
            · have hmem : own ∈ Q.ids := by rw [HR.out.ids]; simp
              have hfl0 : (Q.l own).filter (fun x : Ev => true || decide (x.k ≠ 2)) = Q.l own := List.filter_eq_self.2 (by simp)
              have hfl1 : (Q.l own).filter (fun x : Ev => !(true || decide (x.k ≠ 2))) = [] := List.filter_eq_nil_iff.2 (by simp)
              have hfu := sflush_x HRA.out.st own (by omega) (by omega) hmem true (by have := HQ.out own hmem; omega)
              rw [hfl0, hfl1, HPS.out] at hfu
              obtain ⟨E, hE⟩ : ∃ E, squeeze (Q.l own) = E := ⟨_, rfl⟩
              have hEl : E.length ≤ 21 * i := by rw [← hE]; have := HR.out.ql; have := squeeze_length (Q.l own); omega
              have hinv : aplAll L E = M.map Msg.uid := by rw [← hE, apl_squeeze, HR.out.inv]
              rw [hE] at hfu
              have HFU := Lib.hid hfu
              have HINV := Lib.hid hinv
              have hln : ln = L.length := HR.out.row.form.elim fun A h => h.elim fun c h => by injection h.1
              subst hln
              have hLl := HR.out.ll
              clear hfl0 hfl1 hfu hE hinv hmem hk0 hk1 hk2
              have hcs : ((k == 5) = true) ∨ ((k == 5) = false ∧ (k == 6) = true) := by rcases hk56 with rfl | rfl <;> simp
              have HCS := Lib.hid hcs
              clear hk56 hcs
              rcases HCS.out with hb5 | ⟨hb5, hb6⟩
              all_goals
                go_wp2_with fail
                refine HFU.out.mono ?_
                rintro e w3 ⟨eA, ec, v', rfl, ho3, hS3, hF3, hv3⟩
                have hp3 : Stp _ w3 Sj Q Sj (Q.upd own v' []) := ⟨hF3, fun k hk => by
                  rcases hk with hk | hk | hk | hk | hk | hk | hk
                  · exact .inl (.inl hk)
                  · exact .inl (.inr (.inl hk))
                  · exact .inl (.inr (.inr (.inl hk)))
                  · exact .inl (.inr (.inr (.inr (.inl hk))))
                  · exact .inl (.inr (.inr (.inr (.inr (.inl hk)))))
                  · exact .inl (.inr (.inr (.inr (.inr (.inr (.inl hk))))))
                  · rcases Qs.upd_foot hv3 hk with hk | hk
                    · exact .inl (.inr (.inr (.inr (.inr (.inr (.inr hk))))))
                    · exact .inr hk, rfl, rfl⟩
                have HL0 : Hid (FlR w0 w3 base Sj (Q.upd own v' []) M n t 1 (.slice eA E.length ec) E (21 * i) 0 (.slice lA L.length lc) L) := Lib.hid ⟨hS3, HRA.out.row.fr hp3.fr HRA.out.far, fun g hg => hp3.far (HRA.out.row.block hg).2 (HRA.out.far g hg), ho3.mono (Nat.zero_le _), HINV.out, hLl⟩
                clear ho3 hS3 hF3 hv3 hp3
                obtain ⟨wo, hwo⟩ : ∃ wo : World, wo = wr := ⟨_, rfl⟩
                have HWO := Lib.hid hwo
                clear hwo
                go_wp2
                go_loopw [7, 68] (fun vl vi wr => ∃ (j : Nat) (ul : Value) (L2 : List Int), vl = ul ∧ vi = .int .i64 j ∧ j ≤ E.length ∧ Hid (FlR w0 wr base Sj (Q.upd own v' []) M n t 1 (.slice eA E.length ec) E (21 * i) j ul L2)) (fun _ vi _ => E.length - (intOf vi).toNat)
                case atStart => exact ⟨0, _, L, rfl, rfl, Nat.zero_le _, HL0.out⟩
                case round =>
                  obtain ⟨j, ul, L2, rfl, rfl, hj, HF⟩ := hrel
                  clear HL0
                  obtain ⟨uA, un, uc, rfl⟩ := own_shape HF.out.row
                  have hun : un = L2.length := HF.out.row.form.elim fun A h => h.elim fun c h => by injection h.1
                  subst hun
                  by_cases hlt2 : j < E.length
                  · have hd2 : decide ((j : Int) < E.length) = true := decide_eq_true (by omega)
                    have hw2 : IntKind.i64.wrap ((j : Int) + 1) = (j : Int) + 1 := IntWalk.i64_in _ (by omega)
                    obtain ⟨ev, hev⟩ : ∃ ev, E[j]? = some ev := ⟨_, List.getElem?_eq_getElem hlt2⟩
                    obtain ⟨g, rfl⟩ := HF.out.ev.some_ (by omega)
                    have h0 := HF.out.ev.cell_at hev (j := 0) rfl
                    have h1 := HF.out.ev.cell_at hev (j := 1) rfl
                    have h2 := HF.out.ev.cell_at hev (j := 2) rfl
                    have hinv := HF.out.inv
                    rw [apl_step hev] at hinv
                    obtain ⟨ek, eu, ef⟩ := ev
                    have r0 : wr.cell? ⟨g, j * 3, none⟩ = some (.int .i64 ek) := h0
                    have r1 : wr.cell? ⟨g, j * 3 + 1, none⟩ = some (.int .u32 eu) := h1
                    have r2 : wr.cell? ⟨g, j * 3 + 2, none⟩ = some (.int .u8 ef) := h2
                    have hjI : (j : Int) < E.length := by omega
                    have hL2 := HF.out.ll
                    have hbe : Blk (wr.alloc (.cells #[.int .i64 ek, .int .u32 eu, .int .u8 ef] 36)) wr.heap.size 36 #[.int .i64 ek, .int .u32 eu, .int .u8 ef] := Blk.new _ _ _
                    have HFN := Lib.hid (HF.out.more ((New.refl wr).alloc (.cells #[.int .i64 ek, .int .u32 eu, .int .u8 ef] 36)))
                    have HIV := Lib.hid hinv
                    clear h0 h1 h2 hinv hev
                    by_cases he1 : ek = 1
                    · have hx1 : (ek == 1) = true := by simp [he1]
                      have hap : apl L2 ⟨ek, eu, ef⟩ = L2 ++ [eu] := by unfold apl; rw [if_pos he1]
                      have HAPL := Lib.hid hap
                      have hO := HFN.out.row.alloc (.cells #[.int .u32 eu] 26)
                      have hbw : w0.heap.size ≤ wr.heap.size := HF.out.st.new.size
                      clear he1 hap
                      go_wp2_with (first
                        | (at_builtin; refine wpList_push (E := intE .u32) rfl _ _ _ rfl Tryz.underlying27 hi0 hz0 hz1 hz2 rfl hO rfl eu (wr.heap.size + 1) (Blk.new1 _ _ _ _) 1 rfl (by unfold maxLen; omega) (by omega) (by simp; omega) ?_; intro v5 w5 hv5 hf5 hl5; obtain ⟨A5, N5, C5, hv5e⟩ := own_shape hv5; subst hv5e)
                        | fail)
                      have hR5 := (HFN.out.more ((New.refl _).alloc (.cells #[.int .u32 eu] 26))).turn hf5 hv5 (by
                        rcases hl5 with h | h
                        · exact .inl h
                        · exact .inr ⟨_, h, Nat.le_refl _⟩) (by rw [← HAPL.out]; exact HIV.out) (by simp)
                      have HR5 := Lib.hid hR5
                      clear hR5 hv5 hf5 hl5 hO
                      go_wp2
                      go_roundw
                      case rel => exact ⟨j + 1, _, _, rfl, by go_num, by omega, HR5.out⟩
                      case measure => simp [intOf]; omega
                    · have hx1 : (ek == 1) = false := by simp [he1]
                      by_cases he2 : ek = 2
                      · have hx2 : (ek == 2) = true := by simp [he2]
                        have hap : apl L2 ⟨ek, eu, ef⟩ = L2.filter fun y => !(y == eu) := by unfold apl; rw [if_neg he1, if_pos he2]
                        have HAPL := Lib.hid hap
                        have hde := udeleteFunc 20 #[.pointer (some ⟨wr.heap.size, 0, none⟩)] (fun y => y == eu) (enters _ _ _ Tryz.func20 (by kernel_rfl) rfl) _ L2 w0.heap.size _ (fun W hW W2 y hn => law1_any y eu wr.heap.size W2 ((hn.blk (hW.blk hbe (fun hs => by obtain ⟨cs, h9⟩ := HFN.out.row.heap hs; exact h9.ne_ hbe (by decide) rfl))).cell 1)) HFN.out.row (by omega)
                        have HDE := Lib.hid hde
                        clear he1 he2 hap hde
                        go_wp2_with fail
                        refine HDE.out.mono ?_
                        rintro e w5 ⟨o5, rfl, hv5, hf5, hl5⟩
                        have hR5 := HFN.out.turn hf5 hv5 (.inl hl5) (by rw [← HAPL.out]; exact HIV.out) (by have := List.length_filter_le (fun y => !(y == eu)) L2; omega)
                        obtain ⟨A5, N5, C5, rfl⟩ := own_shape hv5
                        have HR5 := Lib.hid hR5
                        clear hR5 hv5 hf5 hl5
                        go_wp2
                        go_roundw
                        case rel => exact ⟨j + 1, _, _, rfl, by go_num, by omega, HR5.out⟩
                        case measure => simp [intOf]; omega
                      · have hx2 : (ek == 2) = false := by simp [he2]
                        have hap : apl L2 ⟨ek, eu, ef⟩ = L2 := by unfold apl; rw [if_neg he1, if_neg he2]
                        have HAPL := Lib.hid hap
                        clear he1 he2 hap
                        go_wp2
                        go_roundw
                        case rel => exact ⟨j + 1, _, L2, rfl, by go_num, by omega, HFN.out.skip (by have := HIV.out; rwa [HAPL.out] at this)⟩
                        case measure => simp [intOf]; omega
                  · have hd2 : decide ((j : Int) < E.length) = false := decide_eq_false (by omega)
                    have hinv := HF.out.inv
                    rw [List.drop_of_length_le (by omega)] at hinv
                    have hinv : L2 = M.map Msg.uid := hinv
                    have hui := suids_any HF.out.st
                    rw [HPS.out, ← hinv] at hui
                    have HUI := Lib.hid hui
                    have hL2 : L2.length = M.length := by rw [hinv, List.length_map]
                    have HIV := Lib.hid hinv
                    have HL2 := Lib.hid hL2
                    have hM' : L2.length ≤ 20 := by omega
                    clear hui hinv hL2
                    go_wp2_with fail
                    refine HUI.out.mono ?_
                    rintro e w6 ⟨qA, qc, rfl, ho6, hn6⟩
                    have HEQ := Lib.hid (uequal_any _ _ L2 L2 _ (HF.out.row.new hn6).rd ho6.rd (by omega) (by omega))
                    clear ho6
                    go_wp2_with fail
                    refine HEQ.out.mono ?_
                    first | rw [decide_eq_true rfl] | rw [decide_true]
                    rintro e w7 ⟨rfl, hn7⟩
                    have hn67 := hn6.trans hn7
                    have HR7 : Hid (FoR w0 w7 base S.s own (i + 1) Sj (Q.upd own v' []) M n t 1 (.slice uA L2.length uc) L2) := Lib.hid ⟨HF.out.st.more hn67, HR.out.s_, HR.out.cap, HR.out.ids, HF.out.row.new hn67, HF.out.far, by simp [Qs.upd, aplAll]; exact HIV.out, by simp [Qs.upd], by omega, by have := HN.out; omega⟩
                    clear hn6 hn7 hn67
                    go_wp2
                    go_roundw
                    case rel => exact ⟨i + 1, Sj, Q.upd own v' [], M, n, t, _, L2, rfl, by go_num, by omega, HR7.out⟩
                    case measure => simp [intOf]; omega
            · have hb5 : (k == 5) = false := by simp; omega
              have hb6 : (k == 6) = false := by simp; omega
              clear hk0 hk1 hk2 hk56
              go_wp2
              go_roundw
              case rel => exact ⟨i + 1, Sj, Q, M, n, t, _, L, rfl, by go_num, by omega, HRA.out.next⟩
              case measure => simp [intOf]; omega
    · have hd : decide ((i : Int) < l.length) = false := decide_eq_false (by omega)
      go_wp2_with fail
      refine (malive_any _).mono ?_
      rintro e w4 ⟨rfl, hn4⟩
      go_wp2
      go_ret
      exact ⟨rfl, (hnw0.trans HR.out.st.new).trans hn4⟩

/-- The law, its arguments in order. -/
theorem fol_any (x : Value × List Op16) (id : Int) (w : World) (hx : Rd op16E w x.1 x.2 ∧ (∀ y ∈ x.2, y.ok w) ∧ x.2.length ≤ maxLen) (h0 : 0 ≤ id) (h1 : id ≤ 255) :
    Calls Tryz.prog 5 #[x.1, .int .u8 id] w fun e w' => e = .returned (.bool true) ∧ New w w' := by
  cases hq : few16 x.2 with
  | false => exact fol_few x id w hx hq
  | true => exact fol_main x id w hx hq h0 h1

end Go.Proofs.YtdbbchifkjhfcaaGreat
end

