/- Part 17 of the proofs of chapter Z16: StOps6, StepApp, Sort02. -/
import Derived.Test.YtdbbchifkjhfcaaGreatGZ16AP
import Derived.Deep.RegionHeld3
import Derived.Deep.RegionLaw
import Derived.WalkKit
import Derived.WalkSpells
import Derived.WalkLawsBesides
import Derived.Deep.QuietTactic
import Derived.BigQuiet
import Derived.Lib.Hide

section
/- A mailbox: Expunge. -/
namespace Go.Proofs.YtdbbchifkjhfcaaGreat
open Go.RowKit Go.Maps

/-- The messages but those with the identifiers L. -/
def exM (M : List Msg) (L : List Int) : List Msg := M.filter fun m => decide (m.uid ∉ L)
theorem exM_nil (M : List Msg) : exM M [] = M := by
  unfold exM
  rw [List.filter_eq_self]
  simp
theorem exM_snoc (M : List Msg) (L : List Int) (u : Int) : exM M (L ++ [u]) = remM (exM M L) u := by
  unfold exM remM
  rw [List.filter_filter]
  refine List.filter_congr fun m _ => ?_
  rw [← Bool.decide_and]
  refine decide_eq_decide.2 ?_
  rw [List.mem_append, List.mem_singleton]
  constructor
  · intro h
    exact ⟨fun e => h (.inr e), fun e => h (.inl e)⟩
  · rintro ⟨h1, h2⟩ (h | h)
    · exact h2 h
    · exact h1 h

theorem withL_mem {M : List Msg} {f u : Int} : u ∈ withL M f ↔ ∃ m ∈ M, andI m.fl f = f ∧ m.uid = u := by
  unfold withL
  rw [List.mem_map]
  constructor
  · rintro ⟨m, hm, rfl⟩
    have := List.mem_filter.1 hm
    exact ⟨m, this.1, by simpa using this.2, rfl⟩
  · rintro ⟨m, hm, h1, rfl⟩
    exact ⟨m, List.mem_filter.2 ⟨hm, by simpa using h1⟩, rfl⟩

theorem withL_asc {M : List Msg} (f : Int) (h : Asc (M.map Msg.uid)) : Asc (withL M f) := by
  unfold withL
  exact List.Pairwise.sublist (List.Sublist.map _ List.filter_sublist) h
theorem mergeSort_asc {l : List Int} (h : Asc l) : (l.mergeSort fun x y => decide (x ≤ y)) = l :=
  List.mergeSort_of_pairwise (h.imp fun h => by simp; omega)

theorem uid_inj_msg {M : List Msg} (h : (M.map Msg.uid).Nodup) {a b : Msg} (ha : a ∈ M) (hb : b ∈ M) (he : a.uid = b.uid) : a = b := by
  have h1 := findM_of_mem h ha
  have h2 := findM_of_mem h hb
  rw [he, h2] at h1
  injection h1 with h1
  exact h1.symm

/-- What an expunge leaves. -/
def leftM (M : List Msg) : List Msg := M.filter fun m => !decide (andI m.fl 4 = 4)
theorem exM_with {M : List Msg} (h : (M.map Msg.uid).Nodup) : exM M (withL M 4) = leftM M := by
  unfold exM leftM
  refine List.filter_congr fun m hm => ?_
  rw [← decide_not]
  refine decide_eq_decide.2 ?_
  rw [withL_mem]
  constructor
  · intro h1 h2
    exact h1 ⟨m, hm, h2, rfl⟩
  · rintro h1 ⟨m', hm', h2, h3⟩
    exact h1 (uid_inj_msg h hm' hm h3 ▸ h2)

/-- The loop of Expunge, under way. -/
structure ExR (w0 w wr : World) (base : Nat) (S : Sx) (Q : Qs) (M : List Msg) (l : List Int) (n t f : Int) (o : Value) (j : Nat) (Sj : Sx) (Qj : Qs) : Prop where
  st : STX w0 base wr Sj Qj (exM M (l.take j)) n t f
  stp : Stp w wr S Q Sj Qj
  ids : Qj.ids = Q.ids
  ev : ∀ i, Qj.l i = Q.l i ++ (l.take j).map fun u => ⟨2, u, 0⟩
  row : Own (intE .u32) 26 w.heap.size wr o l
  far : ∀ g, o.ownBlock = some g → ¬ Sj.foot Qj g

section
variable {w0 w : World} {base : Nat} {S : Sx} {Q : Qs} {M : List Msg} {n t f : Int}

set_option maxRecDepth 100000 in
set_option maxHeartbeats 3200000 in
/-- Expunge: the messages with the flag Deleted are removed, and each subscriber is told of each. -/
theorem sexpunge_any (h : STX w0 base w S Q M n t f) (hQ : ∀ i ∈ Q.ids, (Q.l i).length + M.length ≤ 90000) :
    Calls Tryz.prog 14 #[.pointer (some ⟨S.s, 0, none⟩)] w fun e w' => ∃ A c S' Q', e = .returned (.slice A (withL M 4).length c) ∧ Own (intE .u32) 26 w.heap.size w' (.slice A (withL M 4).length c) (withL M 4) ∧
      STX w0 base w' S' Q' (leftM M) n t f ∧ Stp w w' S Q S' Q' ∧ Q'.ids = Q.ids ∧ (∀ i, Q'.l i = Q.l i ++ (withL M 4).map fun u => ⟨2, u, 0⟩) ∧ ∀ g, Value.ownBlock (.slice A (withL M 4).length c) = some g → ¬ S'.foot Q' g := by
  obtain ⟨X, hXm, hX⟩ := h.tbl
  have e0 : w.cell? ⟨S.s, 0, none⟩ = some (.pointer (some ⟨S.T.tb, 0, none⟩)) := h.hd.cell 0
  have hml := h.mlen
  have hXl : X.length ≤ 100000 := by rw [← hXm, List.length_map] at hml; omega
  have hw := twith_any hX hXl 4 (by omega)
  rw [hXm, mergeSort_asc (withL_asc 4 h.asc)] at hw
  have hex := exM_with h.nd
  have HLU : Hid (∀ u ∈ withL M 4, 0 ≤ u ∧ u ≤ 4294967295) := Lib.hid (fun u hu => by
    obtain ⟨m, hm, _, rfl⟩ := withL_mem.1 hu
    have := (h.ok m hm).1.1
    omega)
  have hll : (withL M 4).length ≤ M.length := by unfold withL; rw [List.length_map]; exact List.length_filter_le _ _
  obtain ⟨l, hl⟩ : ∃ l, withL M 4 = l := ⟨_, rfl⟩
  rw [hl] at hw hex HLU hll ⊢
  have HW := Lib.hid hw
  have HEX := Lib.hid hex
  have HX := Lib.hid hXm
  have H := Lib.hid h
  have HQ := Lib.hid hQ
  have HE := Lib.hid (enters _ _ _ Tryz.func36 (by kernel_rfl) rfl)
  clear h hX hXm hw hex hl hQ hXl
  go_enter Tryz.func14, Tryz.ntmps14
  go_wp2_with fail
  refine HW.out.mono ?_
  rintro e w2 ⟨o, rfl, ho, hT2, hf2⟩
  obtain ⟨A, c, rfl, _⟩ := ho.form
  have HR0 : Hid (ExR w0 w w2 base S Q M l n t f (.slice A l.length c) 0 S Q) := Lib.hid ⟨by rw [List.take_zero, exM_nil]; exact H.out.turnT rfl ⟨X, HX.out, hT2⟩ hf2, STX.stpT hf2, rfl, fun i => by simp, ho, fun g hg hs => by
    have h1 := (ho.block hg).1
    have h2 := H.out.foot_lt hs
    omega⟩
  clear ho hT2 hf2
  go_wp2
  go_loopw [16] (fun vi wr => ∃ (j : Nat) (Sj : Sx) (Qj : Qs), vi = .int .i64 j ∧ j ≤ l.length ∧ Hid (ExR w0 w wr base S Q M l n t f (.slice A l.length c) j Sj Qj)) (fun vi _ => l.length - (intOf vi).toNat)
  case atStart => exact ⟨0, S, Q, rfl, Nat.zero_le _, HR0.out⟩
  case round =>
    obtain ⟨j, Sj, Qj, rfl, hj, HR⟩ := hrel
    clear HR0
    by_cases hlt : j < l.length
    · have hd : decide ((j : Int) < l.length) = true := decide_eq_true (by omega)
      obtain ⟨u, hu⟩ : ∃ u, l[j]? = some u := ⟨_, List.getElem?_eq_getElem hlt⟩
      have hub := HLU.out u (List.mem_of_getElem? hu)
      obtain ⟨g, rfl⟩ := HR.out.row.some_ (by omega)
      have hc : wr.cell? ⟨g, j, none⟩ = some (.int .u32 u) := by have := HR.out.row.cell_at hu (j := 0) (u := .int .u32 u) rfl; simpa [intE] using this
      have hjI : (j : Int) < l.length := by omega
      have hw1 : IntKind.i64.wrap ((j : Int) + 1) = (j : Int) + 1 := IntWalk.i64_in _ (by omega)
      have HTK := Lib.hid (take_snoc hu)
      have HSS : Hid (Sj.s = S.s) := Lib.hid HR.out.stp.s
      have hdr := sdrop_any HR.out.st u hub.1 hub.2
      have HPS : Hid (Value.pointer (some ⟨Sj.s, 0, none⟩) = .pointer (some ⟨S.s, 0, none⟩)) := Lib.hid (by rw [HSS.out])
      rw [HPS.out, ← exM_snoc, ← HTK.out] at hdr
      have HDR := Lib.hid hdr
      clear hdr hu
      go_wp2_with fail
      refine HDR.out.mono ?_
      rintro e w3 ⟨rfl, u', hS3, hp3⟩
      have hgl : g < wr.heap.size := (HR.out.row.block (b := g) rfl).2
      have hfar := HR.out.far g rfl
      have hwf : (⟨2, u, 0⟩ : Ev).wf := ⟨(by decide : (Lit.int .i64 2).wf = true), okU hub.1 hub.2, (by decide : (Lit.int .u8 0).wf = true)⟩
      have hte := tell_any hS3.hd hS3.qx (fun i hi => by
        rw [HR.out.ev i, List.length_append, List.length_map, List.length_take]
        rw [HR.out.ids] at hi
        have := HQ.out i hi
        omega) ⟨2, u, 0⟩ hwf (by simp) 36 #[] (fun _ => true) HE.out (fun W i _ => by have := everyone_any i W; simpa using this)
      simp only [Ev.val] at hte
      rw [HPS.out] at hte
      have HTE := Lib.hid hte
      have HS3 := Lib.hid hS3
      have HP3 := Lib.hid hp3
      have hrow3 := HR.out.row.fr hp3.fr (fun b hb => HR.out.far b hb)
      have HROW3 := Lib.hid hrow3
      clear hte hS3 hp3 hwf hrow3
      go_wp2_with fail
      refine HTE.out.mono ?_
      rintro e w4 ⟨rfl, v', hq4, hf4, hv4⟩
      have hp4 := told_stp (S := { Sj with u := u' }) (p := fun _ => true) (ev := ⟨2, u, 0⟩) hf4 hv4
      have hfar3 := HP3.out.far hgl hfar
      have hfar4 : ¬ Sx.foot { Sj with u := u' } (Qj.told (fun _ => true) ⟨2, u, 0⟩ v') g := hp4.far (Nat.lt_of_lt_of_le hgl HP3.out.fr.size) hfar3
      have HR4 : Hid (ExR w0 w w4 base S Q M l n t f (.slice (some ⟨g, 0, none⟩) l.length c) (j + 1) { Sj with u := u' } (Qj.told (fun _ => true) ⟨2, u, 0⟩ v')) := Lib.hid ⟨HS3.out.told hq4 hf4 hv4, (HR.out.stp.trans HP3.out).trans hp4, HR.out.ids, fun i => by
          rw [HTK.out, List.map_append, ← List.append_assoc, ← HR.out.ev i]
          rfl, HROW3.out.fr hp4.fr (fun b hb => by cases hb; exact hfar3), fun b hb => by cases hb; exact hfar4⟩
      clear hq4 hf4 hv4 hp4 hfar3 hfar4
      go_wp2
      go_roundw
      case rel => exact ⟨j + 1, _, _, by go_num, by omega, HR4.out⟩
      case measure => simp [intOf]; omega
    · have hd : decide ((j : Int) < l.length) = false := decide_eq_false (by omega)
      have ht : l.take j = l := List.take_of_length_le (by omega)
      have HT := Lib.hid ht
      clear ht
      go_wp2
      go_ret
      refine ⟨A, c, Sj, Qj, rfl, HR.out.row, ?_, HR.out.stp, HR.out.ids, fun i => ?_, HR.out.far⟩
      · have h1 := HR.out.st
        rw [HT.out, HEX.out] at h1
        exact h1
      · have h1 := HR.out.ev i
        rw [HT.out] at h1
        exact h1

/-- Append's step. -/
theorem append_stp {w w' : World} {u' : Value} {ev : Ev} {p : Int → Bool} {v' : Int → Value} (hf : Fr (S.foot Q) w w') (hu : Stays w S.u u') (hv : ∀ i ∈ Q.ids, Stays w (Q.v i) (v' i)) : Stp w w' S Q { S with u := u' } (Q.told p ev v') :=
  ⟨hf, fun k hk => by
    rcases told_gr (S := { S with u := u' }) hv k hk with h1 | h1
    · exact Sx.foot_upd h1 hu
    · exact .inr h1, rfl, rfl⟩

end

end Go.Proofs.YtdbbchifkjhfcaaGreat
end

section
/- append of any slice that reads, as a step of a region that draws its order. Plain lemmas; of no program. -/
namespace Go.Proofs.YtdbbchifkjhfcaaGreat
open Go.RowKit

section
variable {P : Program} {α : Type} {E : Elem α} {e : TypeId} {base : Nat} {w : World} {v : Value} {l : List α}
variable {ops : Array Oper} {rest : List Oper} {o : Oper} {a : Act} {Q : Exit → Act → World → Prop} {K : Act → World → Prop}

theorem step_append_list {F : Prop} (hgd : o.guard = none) (s x : Operand) (t : TypeId) (ho : o.op = .call { callee := .builtin .append, args := #[s, x], argTypes := #[t, t] })
    {i : TypeInfo} {z : Value} {bytes : Nat} (ht : P.underlying t = some (.slice e)) (hi : P.info? e = some i) (hz : i.zero = some z)
    (hsize : i.size = E.sz) (hby : i.bytes = bytes) (hzs : z.cells.size = E.sz)
    (hs : a.eval s = v) {u : Value} (hx : a.eval x = u) (m : List α) (h : Own E e base w v l) (hu : Rd E w u m)
    (h63 : l.length + m.length ≤ maxLen) (hbytes : (l.length + m.length) * bytes ≤ 140737488355328) (hbase : base ≤ w.heap.size)
    (hK : ∀ A c w', Own E e base w' (.slice A (l ++ m).length c) (l ++ m) → Fr (fun k => v.ownBlock = some k) w w' → (Value.ownBlock (.slice A (l ++ m).length c) = v.ownBlock ∨ Value.ownBlock (.slice A (l ++ m).length c) = some w.heap.size) → K (a.put o.dst (.slice A (l ++ m).length c)) w') :
    if Region.wanted o (yielded ops a.tmps) = true then Oper.wp P o a w K Q else F := by
  have hw : Region.wanted o (yielded ops a.tmps) = true := by simp [Region.wanted, hgd]
  rw [if_pos hw]
  obtain ⟨v', w', hr, h1, h2, h3⟩ := run_append_list (P := P) t o.type ht hi hz hsize hby hzs h hu h63 hbytes hbase
  obtain ⟨A, c, rfl, _⟩ := h1.form
  unfold Oper.wp execOp
  simp only [ho, resolve, invoke, builtin, Sem.run_bind, Sem.run_pure, Result.andThen_ok, List.map_toArray, List.map_cons, List.map_nil, hs, hx, hr]
  exact hK A c w' h1 h2 h3

/-- .. where the row that is appended to is new to an earlier world w0: so is what comes of it. -/
theorem step_append_new {F : Prop} (w0 : World) (hgd : o.guard = none) (s x : Operand) (t : TypeId) (ho : o.op = .call { callee := .builtin .append, args := #[s, x], argTypes := #[t, t] })
    {i : TypeInfo} {z : Value} {bytes : Nat} (ht : P.underlying t = some (.slice e)) (hi : P.info? e = some i) (hz : i.zero = some z)
    (hsize : i.size = E.sz) (hby : i.bytes = bytes) (hzs : z.cells.size = E.sz)
    (hs : a.eval s = v) {u : Value} (hx : a.eval x = u) (m : List α) (h : Own E e w0.heap.size w v l) (hu : Rd E w u m)
    (h63 : l.length + m.length ≤ maxLen) (hbytes : (l.length + m.length) * bytes ≤ 140737488355328) (hn : New w0 w) (r : List α) (hr : l ++ m = r)
    (hK : ∀ A c w', Own E e w0.heap.size w' (.slice A r.length c) r → New w0 w' → Hid (Fr (fun k => v.ownBlock = some k) w w') → K (a.put o.dst (.slice A r.length c)) w') :
    if Region.wanted o (yielded ops a.tmps) = true then Oper.wp P o a w K Q else F := by
  subst hr
  exact step_append_list hgd s x t ho ht hi hz hsize hby hzs hs hx m h hu h63 hbytes hn.size fun A c w' h1 h2 _ => hK A c w' h1 (New.append hn h h2) h2
end

/-- The first k of a slice that reads. -/
theorem Rd.take {α : Type} {E : Elem α} {w : World} {A : Option Addr} {n c : Nat} {l : List α} (h : Rd E w (.slice A n c) l) {k : Nat} (hk : k ≤ l.length) : Rd E w (.slice A k c) (l.take k) := by
  obtain ⟨A', c', he, hc, hcells⟩ := h
  cases he
  have hl : (l.take k).length = k := by rw [List.length_take]; omega
  refine ⟨A, c, by rw [hl], by omega, fun hne => ?_⟩
  obtain ⟨b, off, rfl, hcell⟩ := hcells (by rintro rfl; simp at hne)
  refine ⟨b, off, rfl, fun i x hx j u hu => hcell i x ?_ j u hu⟩
  have hi : i < k := by have := (List.getElem?_eq_some_iff.1 hx).1; omega
  rwa [List.getElem?_take_of_lt hi] at hx
/-- What stands from place k on. -/
theorem Rd.drop {α : Type} {E : Elem α} {w : World} {b off n c : Nat} {l : List α} (h : Rd E w (.slice (some ⟨b, off, none⟩) n c) l) {k : Nat} (hk : k ≤ l.length) (c' : Nat) (hc' : l.length - k ≤ c') : Rd E w (.slice (some ⟨b, off + k * E.sz, none⟩) (n - k) c') (l.drop k) := by
  obtain ⟨A', c0, he, hc, hcells⟩ := h
  cases he
  have hl : (l.drop k).length = l.length - k := List.length_drop
  refine ⟨_, c', by rw [hl], by omega, fun hne => ?_⟩
  obtain ⟨b', off', he, hcell⟩ := hcells (by rintro rfl; simp at hne)
  cases he
  refine ⟨_, _, rfl, fun i x hx j u hu => ?_⟩
  rw [List.getElem?_drop] at hx
  have := hcell (k + i) x hx j u hu
  rw [Nat.add_mul] at this
  rwa [show off + k * E.sz + (i * E.sz + j) = off + (k * E.sz + i * E.sz + j) by omega]

end Go.Proofs.YtdbbchifkjhfcaaGreat
end

section
/- The reference's Sorted: the ascending list of the numbers that are not 0. -/
namespace Go.Proofs.YtdbbchifkjhfcaaGreat
open Go.RowKit

theorem AscOf.skip {l s : List Int} {y : Int} (h : AscOf l s) (hy : y = 0 ∨ y ∈ s) : AscOf (l ++ [y]) s := by
  refine ⟨h.1, fun x => ?_⟩
  rw [h.2 x, List.mem_append, List.mem_singleton]
  constructor
  · rintro ⟨h1, h2⟩
    exact ⟨.inl h1, h2⟩
  · rintro ⟨h1 | rfl, h2⟩
    · exact ⟨h1, h2⟩
    · rcases hy with hy | hy
      · exact absurd hy h2
      · exact (h.2 x).1 hy
theorem AscOf.ins {l s : List Int} {y : Int} {k : Nat} (h : AscOf l s) (h0 : y ≠ 0) (h1 : k = 0 ∨ ∃ x, s[k - 1]? = some x ∧ x < y) (h2 : ∀ x ∈ s.drop k, y < x) : AscOf (l ++ [y]) (s.take k ++ [y] ++ s.drop k) := by
  refine ⟨h.1.put h1 h2, fun x => ?_⟩
  rw [mem_put, h.2 x, List.mem_append, List.mem_singleton]
  constructor
  · rintro (rfl | ⟨h3, h4⟩)
    · exact ⟨.inr rfl, h0⟩
    · exact ⟨.inl h3, h4⟩
  · rintro ⟨h3 | rfl, h4⟩
    · exact .inr ⟨h3, h4⟩
    · exact .inl rfl
theorem drop_more {s : List Int} {p : Nat} {x y : Int} (hp : 0 < p) (hx : s[p - 1]? = some x) (hy : y < x) (h : ∀ z ∈ s.drop p, y < z) : ∀ z ∈ s.drop (p - 1), y < z := by
  intro z hz
  have hl := (List.getElem?_eq_some_iff.1 hx).1
  rw [List.drop_eq_getElem_cons hl, (List.getElem?_eq_some_iff.1 hx).2, show p - 1 + 1 = p by omega] at hz
  rcases List.mem_cons.1 hz with rfl | hz
  · exact hy
  · exact h z hz

/-- A slice that owns its row, and is nil where it has nothing. -/
def OwnN (base : Nat) (w : World) (v : Value) (s : List Int) : Prop := Own (intE .u32) 26 base w v s ∧ (s = [] → v = .slice none 0 0)

theorem Own.empty1 {α : Type} (E : Elem α) (e : TypeId) (base : Nat) (w : World) (o : Obj) (hb : base ≤ w.heap.size) : Own E e base ((w.alloc o).alloc (.cells #[] e)) (.slice (some ⟨w.heap.size + 1, 0, none⟩) 0 0) [] := by
  have h := Own.empty E e base (w.alloc o) (by simp; omega)
  rwa [World.size_alloc] at h

set_option maxRecDepth 100000 in
set_option maxHeartbeats 6400000 in
theorem rsorted_any {v : Value} {w : World} {l : List Int} (hv : Rd (intE .u32) w v l) (hl : l.length ≤ 100000) :
    Calls Tryz.prog 16 #[v] w fun e w' => ∃ o s, e = .returned o ∧ Own (intE .u32) 26 w.heap.size w' o s ∧ AscOf l s ∧ s.length ≤ l.length ∧ New w w' := by
  obtain ⟨i0, hi, hz0, hz1, hz2⟩ := info_parts u32_info
  obtain ⟨A, c, rfl, hlc, hcells⟩ := hv.ints
  have HC := Lib.hid hcells
  clear hcells hv
  go_enter Tryz.func16, Tryz.ntmps16
  go_wp2
  go_loopw [3, 4] (fun vo vi wr => ∃ (k : Nat) (s : List Int), vi = .int .i64 k ∧ k ≤ l.length ∧ s.length ≤ k ∧ OwnN w.heap.size wr vo s ∧ Hid (AscOf (l.take k) s) ∧ New w wr) (fun _ vi _ => l.length - (intOf vi).toNat)
  case atStart => exact ⟨0, [], rfl, Nat.zero_le _, Nat.zero_le _, ⟨Own.nil _ _ _ _, fun _ => rfl⟩, ⟨Asc.nil, by simp⟩, New.refl _⟩
  case round =>
    obtain ⟨k, s, rfl, hk, hsk, ⟨hown, hnil⟩, HA, hnew⟩ := hrel
    have hsz := hnew.size
    obtain ⟨oA, oc, rfl, hoc⟩ := hown.form
    by_cases hlt : k < l.length
    · have hd : decide ((k : Int) < l.length) = true := decide_eq_true (by omega)
      obtain ⟨y, hy⟩ : ∃ y, l[k]? = some y := ⟨_, List.getElem?_eq_getElem hlt⟩
      obtain ⟨b, off, rfl, hcell⟩ := HC.out (by rintro rfl; simp at hlt)
      have cy : ∀ n, (wr.drewN n).cell? ⟨b, off + k, none⟩ = some (.int .u32 y) := fun n => Fr.cell hnew (hcell k y hy) id
      have hkI : (k : Int) < l.length := by omega
      have hk0 : (0 : Int) ≤ k := by omega
      have hw : IntKind.i64.wrap ((k : Int) + 1) = (k : Int) + 1 := IntWalk.i64_in _ (by omega)
      have HTK := Lib.hid (show l.take (k + 1) = l.take k ++ [y] from take_snocI hy)
      have HSC := Lib.hid (fun (g : Nat) (e : oA = some ⟨g, 0, none⟩) (j : Nat) (x : Int) (hx : s[j]? = some x) => (by subst e; exact hown.icell hx : wr.cell? ⟨g, j, none⟩ = some (.int .u32 x)))
      have HG := Lib.hid (fun (h : 0 < s.length) => hown.some1 h)
      have HO := Lib.hid hown
      have HN := Lib.hid hnil
      clear hcell hy hown hnil
      go_wp2
      obtain ⟨wo, rfl⟩ : ∃ wo : World, wo = wr := ⟨_, rfl⟩
      go_loopw [5] (fun va wx => ∃ p : Nat, va = .int .i64 p ∧ p ≤ s.length ∧ Hid (∀ x ∈ s.drop p, y < x) ∧ ∃ n, wx = wo.drewN n) (fun va _ => (intOf va).toNat)
      case atStart => exact ⟨s.length, rfl, Nat.le_refl _, by simp [Hid], 0, rfl⟩
      case round =>
        obtain ⟨p, rfl, hp, HB, n, rfl⟩ := hrel
        by_cases hp0 : p = 0
        · have hpI : decide ((0 : Int) < (p : Int)) = false := decide_eq_false (by omega)
          have hpN : decide (0 < p) = false := decide_eq_false (by omega)
          have HP0 := Lib.hid hp0
          clear hp0
          have hp1 : (p : Int) ≤ (s.length : Int) := by omega
          have hp0' : (0 : Int) ≤ (p : Int) := by omega
          have hpc : (p : Int) ≤ (oc : Int) := by omega
          cases hy0 : (y == 0)
          · have HY0 := Lib.hid (show y ≠ 0 by simpa using hy0)
            have HPX : Hid (p = 0 ∨ ∃ x, s[p - 1]? = some x ∧ x < y) := .inl HP0.out
            by_cases hs0 : s = []
            · have hnil := HN.out hs0
              injection hnil with e1 e2 e3
              have hp00 := HP0.out
              subst e1 e3 hp00 hs0
              clear HN
              go_wp2_with fail
              go_quiet (fail)
              go_wp2
              go_quiet (fail)
              go_wp2
              obtain ⟨s1, hs1⟩ : ∃ s1, ([] : List Int).take 0 = s1 := ⟨_, rfl⟩
              obtain ⟨s2, hs2⟩ : ∃ s2, s1 ++ [y] = s2 := ⟨_, rfl⟩
              obtain ⟨sd, hsd⟩ : ∃ sd, ([] : List Int).drop 0 = sd := ⟨_, rfl⟩
              obtain ⟨s3, hs3⟩ : ∃ s3, s2 ++ sd = s3 := ⟨_, rfl⟩
              have l1 : s1.length ≤ 100000 := by rw [← hs1]; simp
              have l2 : s2.length ≤ 100001 := by rw [← hs2, ← hs1]; simp
              have ld : sd.length ≤ 100000 := by rw [← hsd]; simp
              have l3 : s3.length ≤ ([] : List Int).length + 1 := by rw [← hs3, ← hs2, ← hs1, ← hsd]; simp
              have hall : AscOf (l.take (k + 1)) s3 := by
                rw [HTK.out, ← hs3, ← hs2, ← hs1, ← hsd]
                exact AscOf.ins HA.out HY0.out (.inl rfl) HB.out
              have hn3 : s3 ≠ [] := by rw [← hs3, ← hs2]; simp
              have HT : Hid (Rd (intE .u32) wo (.slice none 0 0) s1) := Lib.hid (by rw [← hs1]; simpa using Rd.nil (intE .u32) wo)
              have HD : Hid (Rd (intE .u32) wo (.slice none 0 0) sd) := Lib.hid (by rw [← hsd]; simpa using Rd.nil (intE .u32) wo)
              have HALL := Lib.hid hall
              have HN3 := Lib.hid hn3
              have HS2 := Lib.hid hs2
              have HS3 := Lib.hid hs3
              clear hs1 hs2 hsd hs3 hall hn3
              go_region_held3 (fun w' => w'.cell? ⟨b, off + k, none⟩ = some (.int .u32 y)) (first | go_keep | assumption)
                ((first
                  | (refine step_append_new (E := intE .u32) (l := []) (v := .slice (some ⟨wo.heap.size, 0, none⟩) 0 0) wo (by rfl) (.tmp 51) (.tmp 54) 27 (by rfl) Tryz.underlying27 hi hz0 hz1 hz2 rfl (by rfl) (by rfl) s1 ?own ?rd (by simp; unfold maxLen; omega) (by simp; omega) ?new s1 rfl ?_
                     case own => repeat' first | exact Own.empty _ _ _ _ (by simp) | exact Own.empty1 _ _ _ _ _ (by simp) | apply Own.alloc
                     case new => repeat' first | assumption | exact New.refl _ | apply Fr.alloc | apply Fr.drewN
                     case rd => exact Rd.new HT.out (by repeat' first | assumption | exact New.refl _ | apply Fr.alloc | apply Fr.drewN)
                     intro A1 c1 w1 h1 hn1 hf1
                     have hc1 : w1.cell? ⟨b, off + k, none⟩ = some (.int .u32 y) := Fr.cell hn1 (cy 0) id
                     have hb1 := Lib.hid (Fr.blk hf1.out (Blk.new1 (wo.drewN _) _ 26 #[.int .u32 y]) (by simp [Value.ownBlock])))
                  | (refine step_append_new (E := intE .u32) (l := []) (v := .slice (some ⟨wo.heap.size, 0, none⟩) 0 0) wo (by rfl) (.tmp 51) (.tmp 54) 27 (by rfl) Tryz.underlying27 hi hz0 hz1 hz2 rfl (by rfl) (by rfl) s1 ?own ?rd (by simp; unfold maxLen; omega) (by simp; omega) ?new s1 rfl ?_
                     case own => repeat' first | exact Own.empty _ _ _ _ (by simp) | exact Own.empty1 _ _ _ _ _ (by simp) | apply Own.alloc
                     case new => repeat' first | assumption | exact New.refl _ | apply Fr.alloc | apply Fr.drewN
                     case rd => exact Rd.new HT.out (by repeat' first | assumption | exact New.refl _ | apply Fr.alloc | apply Fr.drewN)
                     intro A1 c1 w1 h1 hn1 hf1
                     have hc1 : w1.cell? ⟨b, off + k, none⟩ = some (.int .u32 y) := Fr.cell hn1 (cy 0) id)
                  | (refine step_append_new (E := intE .u32) (l := []) (v := .slice (some ⟨wo.heap.size + 1, 0, none⟩) 0 0) wo (by rfl) (.tmp 51) (.tmp 54) 27 (by rfl) Tryz.underlying27 hi hz0 hz1 hz2 rfl (by rfl) (by rfl) s1 ?own ?rd (by simp; unfold maxLen; omega) (by simp; omega) ?new s1 rfl ?_
                     case own => repeat' first | exact Own.empty _ _ _ _ (by simp) | exact Own.empty1 _ _ _ _ _ (by simp) | apply Own.alloc
                     case new => repeat' first | assumption | exact New.refl _ | apply Fr.alloc | apply Fr.drewN
                     case rd => exact Rd.new HT.out (by repeat' first | assumption | exact New.refl _ | apply Fr.alloc | apply Fr.drewN)
                     intro A1 c1 w1 h1 hn1 hf1
                     have hc1 : w1.cell? ⟨b, off + k, none⟩ = some (.int .u32 y) := Fr.cell hn1 (cy 0) id
                     have hb1 := Lib.hid (Fr.blk hf1.out ((Blk.new (wo.drewN _) 26 #[.int .u32 y]).alloc _) (by simp [Value.ownBlock])))
                  | (refine step_append_new (E := intE .u32) (l := s1) wo (by rfl) (.tmp 55) (.tmp 60) 27 (by rfl) Tryz.underlying27 hi hz0 hz1 hz2 rfl (by rfl) (by rfl) [y] ?own ?rd (by simp; unfold maxLen; omega) (by simp; omega) ?new s2 HS2.out ?_
                     case own => repeat' first | exact h1 | apply Own.alloc
                     case new => repeat' first | assumption | exact New.refl _ | apply Fr.alloc | apply Fr.drewN
                     case rd => first | exact rd_block (intE .u32) hb1.out [y] rfl | exact rd_block (intE .u32) (Blk.new w1 26 #[.int .u32 y]) [y] rfl
                     intro A2 c2 w2 h2 hn2 hf2
                     have hc2 : w2.cell? ⟨b, off + k, none⟩ = some (.int .u32 y) := Fr.cell hn2 (cy 0) id)
                  | (refine step_append_new (E := intE .u32) (l := s2) wo (by rfl) (.tmp 61) (.tmp 64) 27 (by rfl) Tryz.underlying27 hi hz0 hz1 hz2 rfl (by rfl) (by rfl) sd ?own ?rd (by unfold maxLen; omega) (by omega) ?new s3 HS3.out ?_
                     case own => repeat' first | exact h2 | apply Own.alloc
                     case new => repeat' first | assumption | exact New.refl _ | apply Fr.alloc | apply Fr.drewN
                     case rd => exact Rd.new HD.out hn2
                     intro A3 c3 w3 h3 hn3 hf3
                     have hc3 : w3.cell? ⟨b, off + k, none⟩ = some (.int .u32 y) := Fr.cell hn3 (cy 0) id)
                  | fail))
              all_goals go_wp2
              all_goals go_roundw
              all_goals first
                | exact ⟨k + 1, s3, by go_num, by omega, by omega, ⟨h3.mono hsz, fun h => absurd h HN3.out⟩, HALL.out, hnew.trans hn3⟩
                | (simp [intOf]; omega)
            · obtain ⟨g, rfl⟩ := HG.out (by have := List.length_pos_iff.2 hs0; omega)
              go_wp2_with fail
              go_quiet (fail)
              go_wp2
              go_quiet (fail)
              go_wp2
              obtain ⟨s1, hs1⟩ : ∃ s1, s.take p = s1 := ⟨_, rfl⟩
              obtain ⟨s2, hs2⟩ : ∃ s2, s1 ++ [y] = s2 := ⟨_, rfl⟩
              obtain ⟨sd, hsd⟩ : ∃ sd, s.drop p = sd := ⟨_, rfl⟩
              obtain ⟨s3, hs3⟩ : ∃ s3, s2 ++ sd = s3 := ⟨_, rfl⟩
              have l1 : s1.length ≤ 100000 := by rw [← hs1, List.length_take]; omega
              have l2 : s2.length ≤ 100001 := by rw [← hs2, List.length_append]; simp; omega
              have ld : sd.length ≤ 100000 := by rw [← hsd, List.length_drop]; omega
              have l3 : s3.length ≤ s.length + 1 := by rw [← hs3, ← hs2, ← hs1, ← hsd]; simp; omega
              have hall : AscOf (l.take (k + 1)) s3 := by
                rw [HTK.out, ← hs3, ← hs2, ← hs1, ← hsd]
                exact AscOf.ins HA.out HY0.out HPX.out HB.out
              have hn3 : s3 ≠ [] := by rw [← hs3, ← hs2]; simp
              have HT := Lib.hid (hs1 ▸ Rd.take HO.out.rd hp)
              have hdr : Rd (intE .u32) wo (.slice (if oc = p then some ⟨g, 0, none⟩ else some ⟨g, p, none⟩) (s.length - p) (oc - p)) sd := by
                rw [← hsd]
                by_cases hcp : oc = p
                · rw [if_pos hcp]
                  have e0 : s.drop p = [] := List.drop_eq_nil_of_le (by omega)
                  rw [e0, show s.length - p = 0 by omega]
                  exact ⟨_, _, rfl, Nat.zero_le _, fun h => absurd rfl h⟩
                · rw [if_neg hcp]
                  have hd := Rd.drop HO.out.rd hp (oc - p) (by omega)
                  have e1 : 0 + p * (intE .u32).sz = p := by show 0 + p * 1 = p; omega
                  rwa [e1] at hd
              have HD := Lib.hid hdr
              clear hdr
              have HALL := Lib.hid hall
              have HN3 := Lib.hid hn3
              have HS2 := Lib.hid hs2
              have HS3 := Lib.hid hs3
              clear hs1 hs2 hsd hs3 hall hn3
              go_region_held3 (fun w' => w'.cell? ⟨b, off + k, none⟩ = some (.int .u32 y)) (first | go_keep | assumption)
                ((first
                  | (refine step_append_new (E := intE .u32) (l := []) (v := .slice (some ⟨wo.heap.size, 0, none⟩) 0 0) wo (by rfl) (.tmp 51) (.tmp 54) 27 (by rfl) Tryz.underlying27 hi hz0 hz1 hz2 rfl (by rfl) (by rfl) s1 ?own ?rd (by simp; unfold maxLen; omega) (by simp; omega) ?new s1 rfl ?_
                     case own => repeat' first | exact Own.empty _ _ _ _ (by simp) | exact Own.empty1 _ _ _ _ _ (by simp) | apply Own.alloc
                     case new => repeat' first | assumption | exact New.refl _ | apply Fr.alloc | apply Fr.drewN
                     case rd => exact Rd.new HT.out (by repeat' first | assumption | exact New.refl _ | apply Fr.alloc | apply Fr.drewN)
                     intro A1 c1 w1 h1 hn1 hf1
                     have hc1 : w1.cell? ⟨b, off + k, none⟩ = some (.int .u32 y) := Fr.cell hn1 (cy 0) id
                     have hb1 := Lib.hid (Fr.blk hf1.out (Blk.new1 (wo.drewN _) _ 26 #[.int .u32 y]) (by simp [Value.ownBlock])))
                  | (refine step_append_new (E := intE .u32) (l := []) (v := .slice (some ⟨wo.heap.size, 0, none⟩) 0 0) wo (by rfl) (.tmp 51) (.tmp 54) 27 (by rfl) Tryz.underlying27 hi hz0 hz1 hz2 rfl (by rfl) (by rfl) s1 ?own ?rd (by simp; unfold maxLen; omega) (by simp; omega) ?new s1 rfl ?_
                     case own => repeat' first | exact Own.empty _ _ _ _ (by simp) | exact Own.empty1 _ _ _ _ _ (by simp) | apply Own.alloc
                     case new => repeat' first | assumption | exact New.refl _ | apply Fr.alloc | apply Fr.drewN
                     case rd => exact Rd.new HT.out (by repeat' first | assumption | exact New.refl _ | apply Fr.alloc | apply Fr.drewN)
                     intro A1 c1 w1 h1 hn1 hf1
                     have hc1 : w1.cell? ⟨b, off + k, none⟩ = some (.int .u32 y) := Fr.cell hn1 (cy 0) id)
                  | (refine step_append_new (E := intE .u32) (l := []) (v := .slice (some ⟨wo.heap.size + 1, 0, none⟩) 0 0) wo (by rfl) (.tmp 51) (.tmp 54) 27 (by rfl) Tryz.underlying27 hi hz0 hz1 hz2 rfl (by rfl) (by rfl) s1 ?own ?rd (by simp; unfold maxLen; omega) (by simp; omega) ?new s1 rfl ?_
                     case own => repeat' first | exact Own.empty _ _ _ _ (by simp) | exact Own.empty1 _ _ _ _ _ (by simp) | apply Own.alloc
                     case new => repeat' first | assumption | exact New.refl _ | apply Fr.alloc | apply Fr.drewN
                     case rd => exact Rd.new HT.out (by repeat' first | assumption | exact New.refl _ | apply Fr.alloc | apply Fr.drewN)
                     intro A1 c1 w1 h1 hn1 hf1
                     have hc1 : w1.cell? ⟨b, off + k, none⟩ = some (.int .u32 y) := Fr.cell hn1 (cy 0) id
                     have hb1 := Lib.hid (Fr.blk hf1.out ((Blk.new (wo.drewN _) 26 #[.int .u32 y]).alloc _) (by simp [Value.ownBlock])))
                  | (refine step_append_new (E := intE .u32) (l := s1) wo (by rfl) (.tmp 55) (.tmp 60) 27 (by rfl) Tryz.underlying27 hi hz0 hz1 hz2 rfl (by rfl) (by rfl) [y] ?own ?rd (by simp; unfold maxLen; omega) (by simp; omega) ?new s2 HS2.out ?_
                     case own => repeat' first | exact h1 | apply Own.alloc
                     case new => repeat' first | assumption | exact New.refl _ | apply Fr.alloc | apply Fr.drewN
                     case rd => first | exact rd_block (intE .u32) hb1.out [y] rfl | exact rd_block (intE .u32) (Blk.new w1 26 #[.int .u32 y]) [y] rfl
                     intro A2 c2 w2 h2 hn2 hf2
                     have hc2 : w2.cell? ⟨b, off + k, none⟩ = some (.int .u32 y) := Fr.cell hn2 (cy 0) id)
                  | (refine step_append_new (E := intE .u32) (l := s2) wo (by rfl) (.tmp 61) (.tmp 64) 27 (by rfl) Tryz.underlying27 hi hz0 hz1 hz2 rfl (by rfl) (by rfl) sd ?own ?rd (by unfold maxLen; omega) (by omega) ?new s3 HS3.out ?_
                     case own => repeat' first | exact h2 | apply Own.alloc
                     case new => repeat' first | assumption | exact New.refl _ | apply Fr.alloc | apply Fr.drewN
                     case rd => exact Rd.new HD.out hn2
                     intro A3 c3 w3 h3 hn3 hf3
                     have hc3 : w3.cell? ⟨b, off + k, none⟩ = some (.int .u32 y) := Fr.cell hn3 (cy 0) id)
                  | fail))
              all_goals go_wp2
              all_goals go_roundw
              all_goals first
                | exact ⟨k + 1, s3, by go_num, by omega, by omega, ⟨h3.mono hsz, fun h => absurd h HN3.out⟩, HALL.out, hnew.trans hn3⟩
                | (simp [intOf]; omega)
          · go_wp2_with fail
            go_quiet (fail)
            go_wp2
            go_quiet (fail)
            go_wp2
            go_roundw
            case rel =>
              refine ⟨k + 1, s, by go_num, by omega, by omega, ⟨HO.out, HN.out⟩, ?_, ?_⟩
              · rw [HTK.out]; exact AscOf.skip HA.out (.inl (by simpa using hy0))
              · first | exact hnew.drewN _ | exact (hnew.drewN _).drewN _
            case measure => simp [intOf]; omega
        · have hpI : decide ((0 : Int) < (p : Int)) = true := decide_eq_true (by omega)
          have hpN : decide (0 < p) = true := decide_eq_true (by omega)
          have hp1 : IntKind.i64.wrap ((p : Int) - 1) = (p : Int) - 1 := IntWalk.i64_in _ (by omega)
          have hp2 : ((p : Int) - 1).toNat = p - 1 := by omega
          have hp3 : 0 ≤ (p : Int) - 1 := by omega
          have hp4 : (p : Int) - 1 < s.length := by omega
          obtain ⟨x, hx⟩ : ∃ x, s[p - 1]? = some x := ⟨_, List.getElem?_eq_getElem (by omega)⟩
          obtain ⟨g, rfl⟩ := HG.out (by omega)
          have cx : ∀ n, (wo.drewN n).cell? ⟨g, p - 1, none⟩ = some (.int .u32 x) := fun n => HSC.out g rfl _ _ hx
          have HX := Lib.hid hx
          clear hx
          cases hq : decide (y < x)
          · have hpc : (p : Int) ≤ (oc : Int) := by omega
            have hps : (p : Int) ≤ (s.length : Int) := by omega
            have hp0' : (0 : Int) ≤ (p : Int) := by omega
            cases hy0 : (y == 0)
            · have HY0 := Lib.hid (show y ≠ 0 by simpa using hy0)
              cases hxy : (x == y)
              · have HPX : Hid (p = 0 ∨ ∃ x, s[p - 1]? = some x ∧ x < y) := .inr ⟨x, HX.out, by
                  have h1 : ¬ y < x := by simpa using hq
                  have h2 : x ≠ y := by simpa using hxy
                  omega⟩
                go_wp2_with fail
                go_quiet (fail)
                go_wp2
                go_quiet (fail)
                go_wp2
                obtain ⟨s1, hs1⟩ : ∃ s1, s.take p = s1 := ⟨_, rfl⟩
                obtain ⟨s2, hs2⟩ : ∃ s2, s1 ++ [y] = s2 := ⟨_, rfl⟩
                obtain ⟨sd, hsd⟩ : ∃ sd, s.drop p = sd := ⟨_, rfl⟩
                obtain ⟨s3, hs3⟩ : ∃ s3, s2 ++ sd = s3 := ⟨_, rfl⟩
                have l1 : s1.length ≤ 100000 := by rw [← hs1, List.length_take]; omega
                have l2 : s2.length ≤ 100001 := by rw [← hs2, List.length_append]; simp; omega
                have ld : sd.length ≤ 100000 := by rw [← hsd, List.length_drop]; omega
                have l3 : s3.length ≤ s.length + 1 := by rw [← hs3, ← hs2, ← hs1, ← hsd]; simp; omega
                have hall : AscOf (l.take (k + 1)) s3 := by
                  rw [HTK.out, ← hs3, ← hs2, ← hs1, ← hsd]
                  exact AscOf.ins HA.out HY0.out HPX.out HB.out
                have hn3 : s3 ≠ [] := by rw [← hs3, ← hs2]; simp
                have HT := Lib.hid (hs1 ▸ Rd.take HO.out.rd hp)
                have hdr : Rd (intE .u32) wo (.slice (if oc = p then some ⟨g, 0, none⟩ else some ⟨g, p, none⟩) (s.length - p) (oc - p)) sd := by
                  rw [← hsd]
                  by_cases hcp : oc = p
                  · rw [if_pos hcp]
                    have e0 : s.drop p = [] := List.drop_eq_nil_of_le (by omega)
                    rw [e0, show s.length - p = 0 by omega]
                    exact ⟨_, _, rfl, Nat.zero_le _, fun h => absurd rfl h⟩
                  · rw [if_neg hcp]
                    have hd := Rd.drop HO.out.rd hp (oc - p) (by omega)
                    have e1 : 0 + p * (intE .u32).sz = p := by show 0 + p * 1 = p; omega
                    rwa [e1] at hd
                have HD := Lib.hid hdr
                clear hdr
                have HALL := Lib.hid hall
                have HN3 := Lib.hid hn3
                have HS2 := Lib.hid hs2
                have HS3 := Lib.hid hs3
                clear hs1 hs2 hsd hs3 hall hn3
                go_region_held3 (fun w' => w'.cell? ⟨b, off + k, none⟩ = some (.int .u32 y)) (first | go_keep | assumption)
                  ((first
                    | (refine step_append_new (E := intE .u32) (l := []) (v := .slice (some ⟨wo.heap.size, 0, none⟩) 0 0) wo (by rfl) (.tmp 51) (.tmp 54) 27 (by rfl) Tryz.underlying27 hi hz0 hz1 hz2 rfl (by rfl) (by rfl) s1 ?own ?rd (by simp; unfold maxLen; omega) (by simp; omega) ?new s1 rfl ?_
                       case own => repeat' first | exact Own.empty _ _ _ _ (by simp) | exact Own.empty1 _ _ _ _ _ (by simp) | apply Own.alloc
                       case new => repeat' first | assumption | exact New.refl _ | apply Fr.alloc | apply Fr.drewN
                       case rd => exact Rd.new HT.out (by repeat' first | assumption | exact New.refl _ | apply Fr.alloc | apply Fr.drewN)
                       intro A1 c1 w1 h1 hn1 hf1
                       have hc1 : w1.cell? ⟨b, off + k, none⟩ = some (.int .u32 y) := Fr.cell hn1 (cy 0) id
                       have hb1 := Lib.hid (Fr.blk hf1.out (Blk.new1 (wo.drewN _) _ 26 #[.int .u32 y]) (by simp [Value.ownBlock])))
                    | (refine step_append_new (E := intE .u32) (l := []) (v := .slice (some ⟨wo.heap.size, 0, none⟩) 0 0) wo (by rfl) (.tmp 51) (.tmp 54) 27 (by rfl) Tryz.underlying27 hi hz0 hz1 hz2 rfl (by rfl) (by rfl) s1 ?own ?rd (by simp; unfold maxLen; omega) (by simp; omega) ?new s1 rfl ?_
                       case own => repeat' first | exact Own.empty _ _ _ _ (by simp) | exact Own.empty1 _ _ _ _ _ (by simp) | apply Own.alloc
                       case new => repeat' first | assumption | exact New.refl _ | apply Fr.alloc | apply Fr.drewN
                       case rd => exact Rd.new HT.out (by repeat' first | assumption | exact New.refl _ | apply Fr.alloc | apply Fr.drewN)
                       intro A1 c1 w1 h1 hn1 hf1
                       have hc1 : w1.cell? ⟨b, off + k, none⟩ = some (.int .u32 y) := Fr.cell hn1 (cy 0) id)
                    | (refine step_append_new (E := intE .u32) (l := []) (v := .slice (some ⟨wo.heap.size + 1, 0, none⟩) 0 0) wo (by rfl) (.tmp 51) (.tmp 54) 27 (by rfl) Tryz.underlying27 hi hz0 hz1 hz2 rfl (by rfl) (by rfl) s1 ?own ?rd (by simp; unfold maxLen; omega) (by simp; omega) ?new s1 rfl ?_
                       case own => repeat' first | exact Own.empty _ _ _ _ (by simp) | exact Own.empty1 _ _ _ _ _ (by simp) | apply Own.alloc
                       case new => repeat' first | assumption | exact New.refl _ | apply Fr.alloc | apply Fr.drewN
                       case rd => exact Rd.new HT.out (by repeat' first | assumption | exact New.refl _ | apply Fr.alloc | apply Fr.drewN)
                       intro A1 c1 w1 h1 hn1 hf1
                       have hc1 : w1.cell? ⟨b, off + k, none⟩ = some (.int .u32 y) := Fr.cell hn1 (cy 0) id
                       have hb1 := Lib.hid (Fr.blk hf1.out ((Blk.new (wo.drewN _) 26 #[.int .u32 y]).alloc _) (by simp [Value.ownBlock])))
                    | (refine step_append_new (E := intE .u32) (l := s1) wo (by rfl) (.tmp 55) (.tmp 60) 27 (by rfl) Tryz.underlying27 hi hz0 hz1 hz2 rfl (by rfl) (by rfl) [y] ?own ?rd (by simp; unfold maxLen; omega) (by simp; omega) ?new s2 HS2.out ?_
                       case own => repeat' first | exact h1 | apply Own.alloc
                       case new => repeat' first | assumption | exact New.refl _ | apply Fr.alloc | apply Fr.drewN
                       case rd => first | exact rd_block (intE .u32) hb1.out [y] rfl | exact rd_block (intE .u32) (Blk.new w1 26 #[.int .u32 y]) [y] rfl
                       intro A2 c2 w2 h2 hn2 hf2
                       have hc2 : w2.cell? ⟨b, off + k, none⟩ = some (.int .u32 y) := Fr.cell hn2 (cy 0) id)
                    | (refine step_append_new (E := intE .u32) (l := s2) wo (by rfl) (.tmp 61) (.tmp 64) 27 (by rfl) Tryz.underlying27 hi hz0 hz1 hz2 rfl (by rfl) (by rfl) sd ?own ?rd (by unfold maxLen; omega) (by omega) ?new s3 HS3.out ?_
                       case own => repeat' first | exact h2 | apply Own.alloc
                       case new => repeat' first | assumption | exact New.refl _ | apply Fr.alloc | apply Fr.drewN
                       case rd => exact Rd.new HD.out hn2
                       intro A3 c3 w3 h3 hn3 hf3
                       have hc3 : w3.cell? ⟨b, off + k, none⟩ = some (.int .u32 y) := Fr.cell hn3 (cy 0) id)
                    | fail))
                all_goals go_wp2
                all_goals go_roundw
                all_goals first
                  | exact ⟨k + 1, s3, by go_num, by omega, by omega, ⟨h3.mono hsz, fun h => absurd h HN3.out⟩, HALL.out, hnew.trans hn3⟩
                  | (simp [intOf]; omega)
              · have HXY := Lib.hid (show x = y by simpa using hxy)
                go_wp2_with fail
                go_quiet (fail)
                go_wp2
                go_quiet (fail)
                go_wp2
                go_roundw
                case rel =>
                  refine ⟨k + 1, s, by go_num, by omega, by omega, ⟨HO.out, HN.out⟩, ?_, ?_⟩
                  · rw [HTK.out]; exact AscOf.skip HA.out (.inr (HXY.out ▸ List.mem_of_getElem? HX.out))
                  · first | exact hnew.drewN _ | exact (hnew.drewN _).drewN _
                case measure => simp [intOf]; omega
            · go_wp2_with fail
              go_quiet (fail)
              go_wp2
              go_quiet (fail)
              go_wp2
              go_roundw
              case rel =>
                refine ⟨k + 1, s, by go_num, by omega, by omega, ⟨HO.out, HN.out⟩, ?_, ?_⟩
                · rw [HTK.out]; exact AscOf.skip HA.out (.inl (by simpa using hy0))
                · first | exact hnew.drewN _ | exact (hnew.drewN _).drewN _
              case measure => simp [intOf]; omega
          · go_wp2_with fail
            go_quiet (fail)
            go_wp2
            go_roundw
            case rel =>
              refine ⟨p - 1, by congr 1; omega, by omega, ?_, _, rfl⟩
              exact drop_more (by omega) HX.out (by simpa using hq) HB.out
            case measure => simp [intOf]; omega
    · have hd : decide ((k : Int) < l.length) = false := decide_eq_false (by omega)
      have HO := Lib.hid hown
      have hall : AscOf l s := by
        have := HA.out
        rwa [List.take_of_length_le (by omega)] at this
      have HALL := Lib.hid hall
      clear hown hall
      go_wp2
      go_ret
      exact ⟨_, s, rfl, HO.out, HALL.out, by omega, hnew⟩

end Go.Proofs.YtdbbchifkjhfcaaGreat
end

