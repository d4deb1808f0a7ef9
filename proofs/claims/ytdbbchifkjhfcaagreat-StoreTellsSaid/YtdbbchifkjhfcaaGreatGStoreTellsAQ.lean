/- Part 17 of the proof of StoreTells: StOps6, STells, Open16. -/
import Derived.Test.YtdbbchifkjhfcaaGreatGStoreTellsAP
import Derived.Outline
import Derived.Test.YtdbbchifkjhfcaaGreatRows
import Derived.ProofKit
import Derived.OpenShut

section
/- A mailbox: Expunge. -/
namespace Go.Proofs.YtdbbchifkjhfcaaGreat
open Go.RowKit Go.Maps

/-- The messages but those with the identifiers L. -/
def exM (M : List Msg) (L : List Int) : List Msg := M.filter fun m => decide (m.uid ∉ L)
theorem exM_nil (M : List Msg) : exM M [] = M := by
  unfold exM
  rw [List.filter_eq_self]
  simp
theorem exM_snoc (M : List Msg) (L : List Int) (u : Int) : exM M (L ++ [u]) = remM (exM M L) u := by
  unfold exM remM
  rw [List.filter_filter]
  refine List.filter_congr fun m _ => ?_
  rw [← Bool.decide_and]
  refine decide_eq_decide.2 ?_
  rw [List.mem_append, List.mem_singleton]
  constructor
  · intro h
    exact ⟨fun e => h (.inr e), fun e => h (.inl e)⟩
  · rintro ⟨h1, h2⟩ (h | h)
    · exact h2 h
    · exact h1 h

theorem withL_mem {M : List Msg} {f u : Int} : u ∈ withL M f ↔ ∃ m ∈ M, andI m.fl f = f ∧ m.uid = u := by
  unfold withL
  rw [List.mem_map]
  constructor
  · rintro ⟨m, hm, rfl⟩
    have := List.mem_filter.1 hm
    exact ⟨m, this.1, by simpa using this.2, rfl⟩
  · rintro ⟨m, hm, h1, rfl⟩
    exact ⟨m, List.mem_filter.2 ⟨hm, by simpa using h1⟩, rfl⟩

theorem withL_asc {M : List Msg} (f : Int) (h : Asc (M.map Msg.uid)) : Asc (withL M f) := by
  unfold withL
  exact List.Pairwise.sublist (List.Sublist.map _ List.filter_sublist) h
theorem sort_asc {l : List Int} (h : Asc l) : (l.mergeSort fun x y => decide (x ≤ y)) = l :=
  List.mergeSort_of_pairwise (h.imp fun h => by simp; omega)

theorem uid_inj_msg {M : List Msg} (h : (M.map Msg.uid).Nodup) {a b : Msg} (ha : a ∈ M) (hb : b ∈ M) (he : a.uid = b.uid) : a = b := by
  have h1 := findM_of_mem h ha
  have h2 := findM_of_mem h hb
  rw [he, h2] at h1
  injection h1 with h1
  exact h1.symm

/-- What an expunge leaves. -/
def leftM (M : List Msg) : List Msg := M.filter fun m => !decide (andI m.fl 4 = 4)
theorem exM_with {M : List Msg} (h : (M.map Msg.uid).Nodup) : exM M (withL M 4) = leftM M := by
  unfold exM leftM
  refine List.filter_congr fun m hm => ?_
  rw [← decide_not]
  refine decide_eq_decide.2 ?_
  rw [withL_mem]
  constructor
  · intro h1 h2
    exact h1 ⟨m, hm, h2, rfl⟩
  · rintro h1 ⟨m', hm', h2, h3⟩
    exact h1 (uid_inj_msg h hm' hm h3 ▸ h2)

/-- The loop of Expunge, under way. -/
structure ExR (w0 w wr : World) (base : Nat) (S : Sx) (Q : Qs) (M : List Msg) (l : List Int) (n t f : Int) (o : Value) (j : Nat) (Sj : Sx) (Qj : Qs) : Prop where
  st : STX w0 base wr Sj Qj (exM M (l.take j)) n t f
  stp : Stp w wr S Q Sj Qj
  ids : Qj.ids = Q.ids
  ev : ∀ i, Qj.l i = Q.l i ++ (l.take j).map fun u => ⟨2, u, 0⟩
  row : Own (intE .u32) 26 w.heap.size wr o l
  far : ∀ g, o.ownBlock = some g → ¬ Sj.foot Qj g

section
variable {w0 w : World} {base : Nat} {S : Sx} {Q : Qs} {M : List Msg} {n t f : Int}

set_option maxRecDepth 100000 in
set_option maxHeartbeats 3200000 in
/-- Expunge: the messages with the flag Deleted are removed, and each subscriber is told of each. -/
theorem sexpunge_any (h : STX w0 base w S Q M n t f) (hQ : ∀ i ∈ Q.ids, (Q.l i).length + M.length ≤ 90000) :
    Calls Tryz.prog 14 #[.pointer (some ⟨S.s, 0, none⟩)] w fun e w' => ∃ A c S' Q', e = .returned (.slice A (withL M 4).length c) ∧ Own (intE .u32) 26 w.heap.size w' (.slice A (withL M 4).length c) (withL M 4) ∧
      STX w0 base w' S' Q' (leftM M) n t f ∧ Stp w w' S Q S' Q' ∧ Q'.ids = Q.ids ∧ (∀ i, Q'.l i = Q.l i ++ (withL M 4).map fun u => ⟨2, u, 0⟩) ∧ ∀ g, Value.ownBlock (.slice A (withL M 4).length c) = some g → ¬ S'.foot Q' g := by
  obtain ⟨X, hXm, hX⟩ := h.tbl
  have e0 : w.cell? ⟨S.s, 0, none⟩ = some (.pointer (some ⟨S.T.tb, 0, none⟩)) := h.hd.cell 0
  have hml := h.mlen
  have hXl : X.length ≤ 100000 := by rw [← hXm, List.length_map] at hml; omega
  have hw := twith_any hX hXl 4 (by omega)
  rw [hXm, sort_asc (withL_asc 4 h.asc)] at hw
  have hex := exM_with h.nd
  have HLU : Hid (∀ u ∈ withL M 4, 0 ≤ u ∧ u ≤ 4294967295) := Lib.hid (fun u hu => by
    obtain ⟨m, hm, _, rfl⟩ := withL_mem.1 hu
    have := (h.ok m hm).1.1
    omega)
  have hll : (withL M 4).length ≤ M.length := by unfold withL; rw [List.length_map]; exact List.length_filter_le _ _
  obtain ⟨l, hl⟩ : ∃ l, withL M 4 = l := ⟨_, rfl⟩
  rw [hl] at hw hex HLU hll ⊢
  have HW := Lib.hid hw
  have HEX := Lib.hid hex
  have HX := Lib.hid hXm
  have H := Lib.hid h
  have HQ := Lib.hid hQ
  have HE := Lib.hid (enters _ _ _ Tryz.func36 (by kernel_rfl) rfl)
  clear h hX hXm hw hex hl hQ hXl
  go_enter Tryz.func14, Tryz.ntmps14
  go_wp2_with fail
  refine HW.out.mono ?_
  rintro e w2 ⟨o, rfl, ho, hT2, hf2⟩
  obtain ⟨A, c, rfl, _⟩ := ho.form
  have HR0 : Hid (ExR w0 w w2 base S Q M l n t f (.slice A l.length c) 0 S Q) := Lib.hid ⟨by rw [List.take_zero, exM_nil]; exact H.out.turnT rfl ⟨X, HX.out, hT2⟩ hf2, STX.stpT hf2, rfl, fun i => by simp, ho, fun g hg hs => by
    have h1 := (ho.block hg).1
    have h2 := H.out.foot_lt hs
    omega⟩
  clear ho hT2 hf2
  go_wp2
  go_loopw [16] (fun vi wr => ∃ (j : Nat) (Sj : Sx) (Qj : Qs), vi = .int .i64 j ∧ j ≤ l.length ∧ Hid (ExR w0 w wr base S Q M l n t f (.slice A l.length c) j Sj Qj)) (fun vi _ => l.length - (intOf vi).toNat)
  case atStart => exact ⟨0, S, Q, rfl, Nat.zero_le _, HR0.out⟩
  case round =>
    obtain ⟨j, Sj, Qj, rfl, hj, HR⟩ := hrel
    clear HR0
    by_cases hlt : j < l.length
    · have hd : decide ((j : Int) < l.length) = true := decide_eq_true (by omega)
      obtain ⟨u, hu⟩ : ∃ u, l[j]? = some u := ⟨_, List.getElem?_eq_getElem hlt⟩
      have hub := HLU.out u (List.mem_of_getElem? hu)
      obtain ⟨g, rfl⟩ := HR.out.row.some_ (by omega)
      have hc : wr.cell? ⟨g, j, none⟩ = some (.int .u32 u) := by have := HR.out.row.cell_at hu (j := 0) (u := .int .u32 u) rfl; simpa [intE] using this
      have hjI : (j : Int) < l.length := by omega
      have hw1 : IntKind.i64.wrap ((j : Int) + 1) = (j : Int) + 1 := IntWalk.i64_in _ (by omega)
      have HTK := Lib.hid (take_snoc hu)
      have HSS : Hid (Sj.s = S.s) := Lib.hid HR.out.stp.s
      have hdr := sdrop_any HR.out.st u hub.1 hub.2
      have HPS : Hid (Value.pointer (some ⟨Sj.s, 0, none⟩) = .pointer (some ⟨S.s, 0, none⟩)) := Lib.hid (by rw [HSS.out])
      rw [HPS.out, ← exM_snoc, ← HTK.out] at hdr
      have HDR := Lib.hid hdr
      clear hdr hu
      go_wp2_with fail
      refine HDR.out.mono ?_
      rintro e w3 ⟨rfl, u', hS3, hp3⟩
      have hgl : g < wr.heap.size := (HR.out.row.block (b := g) rfl).2
      have hfar := HR.out.far g rfl
      have hwf : (⟨2, u, 0⟩ : Ev).wf := ⟨(by decide : (Lit.int .i64 2).wf = true), okU hub.1 hub.2, (by decide : (Lit.int .u8 0).wf = true)⟩
      have hte := tell_any hS3.hd hS3.qx (fun i hi => by
        rw [HR.out.ev i, List.length_append, List.length_map, List.length_take]
        rw [HR.out.ids] at hi
        have := HQ.out i hi
        omega) ⟨2, u, 0⟩ hwf (by simp) 36 #[] (fun _ => true) HE.out (fun W i _ => by have := everyone_any i W; simpa using this)
      simp only [Ev.val] at hte
      rw [HPS.out] at hte
      have HTE := Lib.hid hte
      have HS3 := Lib.hid hS3
      have HP3 := Lib.hid hp3
      have hrow3 := HR.out.row.fr hp3.fr (fun b hb => HR.out.far b hb)
      have HROW3 := Lib.hid hrow3
      clear hte hS3 hp3 hwf hrow3
      go_wp2_with fail
      refine HTE.out.mono ?_
      rintro e w4 ⟨rfl, v', hq4, hf4, hv4⟩
      have hp4 := told_stp (S := { Sj with u := u' }) (p := fun _ => true) (ev := ⟨2, u, 0⟩) hf4 hv4
      have hfar3 := HP3.out.far hgl hfar
      have hfar4 : ¬ Sx.foot { Sj with u := u' } (Qj.told (fun _ => true) ⟨2, u, 0⟩ v') g := hp4.far (Nat.lt_of_lt_of_le hgl HP3.out.fr.size) hfar3
      have HR4 : Hid (ExR w0 w w4 base S Q M l n t f (.slice (some ⟨g, 0, none⟩) l.length c) (j + 1) { Sj with u := u' } (Qj.told (fun _ => true) ⟨2, u, 0⟩ v')) := Lib.hid ⟨HS3.out.told hq4 hf4 hv4, (HR.out.stp.trans HP3.out).trans hp4, HR.out.ids, fun i => by
          rw [HTK.out, List.map_append, ← List.append_assoc, ← HR.out.ev i]
          rfl, HROW3.out.fr hp4.fr (fun b hb => by cases hb; exact hfar3), fun b hb => by cases hb; exact hfar4⟩
      clear hq4 hf4 hv4 hp4 hfar3 hfar4
      go_wp2
      go_roundw
      case rel => exact ⟨j + 1, _, _, by go_num, by omega, HR4.out⟩
      case measure => simp [intOf]; omega
    · have hd : decide ((j : Int) < l.length) = false := decide_eq_false (by omega)
      have ht : l.take j = l := List.take_of_length_le (by omega)
      have HT := Lib.hid ht
      clear ht
      go_wp2
      go_ret
      refine ⟨A, c, Sj, Qj, rfl, HR.out.row, ?_, HR.out.stp, HR.out.ids, fun i => ?_, HR.out.far⟩
      · have h1 := HR.out.st
        rw [HT.out, HEX.out] at h1
        exact h1
      · have h1 := HR.out.ev i
        rw [HT.out] at h1
        exact h1
end

end Go.Proofs.YtdbbchifkjhfcaaGreat
end

section
/- StoreTells: the walk. -/
namespace Go.Proofs.YtdbbchifkjhfcaaGreat
open Go.RowKit Go.Maps

def idsTo (j : Nat) : List Int := (List.range j).map fun i : Nat => (i : Int)
theorem idsTo_mem {j : Nat} {x : Int} : x ∈ idsTo j ↔ 0 ≤ x ∧ x < j := by
  unfold idsTo
  rw [List.mem_map]
  constructor
  · rintro ⟨i, hi, rfl⟩
    have := List.mem_range.1 hi
    omega
  · rintro ⟨h0, h1⟩
    exact ⟨x.toNat, List.mem_range.2 (by omega), by omega⟩
theorem idsTo_succ (j : Nat) : idsTo (j + 1) = idsTo j ++ [(j : Int)] := by
  unfold idsTo
  rw [List.range_succ, List.map_append]
  rfl
theorem idsTo_len (j : Nat) : (idsTo j).length = j := by simp [idsTo]

/-- The subscribers 0, 1, .. k-1, and what each has been told. -/
structure TeR (w0 wr : World) (base : Nat) (S : Sx) (Q : Qs) (M : List Msg) (n t f : Int) (k : Nat) : Prop where
  st : STX w0 base wr S Q M n t f
  ids : Q.ids = idsTo k

theorem Own.of_blk {α : Type} {E : Elem α} {w : World} {g base : Nat} {e : TypeId} {cs : Array Value} {l : List α} (h : Blk w g e cs) (hc : cs.toList = E.cells l) (hb : base ≤ g) (hl : l.length ≤ maxLen) : Own E e base w (.slice (some ⟨g, 0, none⟩) l.length l.length) l := by
  refine ⟨E.cells_length l, .inr ⟨g, l.length, cs, rfl, hb, h, Nat.le_refl _, hl, ?_, ?_⟩⟩
  · rw [← Array.length_toList, hc, E.cells_length]
  · rw [hc, ← E.cells_length, List.take_length]

theorem sq2 (u x : Int) : squeeze (([(⟨1, u, 0⟩ : Ev), ⟨3, u, x⟩]).filter fun y => true || decide (y.k ≠ 2)) = [⟨1, u, 0⟩, ⟨3, u, x⟩] := by
  have h1 : ([(⟨1, u, 0⟩ : Ev), ⟨3, u, x⟩]).filter (fun y => true || decide (y.k ≠ 2)) = [⟨1, u, 0⟩, ⟨3, u, x⟩] := by simp
  rw [h1]
  have h2 : later (⟨1, u, 0⟩ : Ev) [⟨3, u, x⟩] = false := by simp [later]
  have h3 : later (⟨3, u, x⟩ : Ev) [] = false := by simp [later]
  simp [squeeze, h2, h3]

set_option maxRecDepth 100000 in
set_option maxHeartbeats 6400000 in
theorem tells_law (a b mode n : Int) (w : World) (ha : 0 ≤ a ∧ a ≤ 255) (hb : 0 ≤ b ∧ b ≤ 255) (hm : 0 ≤ mode ∧ mode ≤ 255) (hn : 0 ≤ n ∧ n ≤ 255) :
    Calls Tryz.prog 3 #[.agg #[.int .u8 a, .int .u8 b], .int .u8 mode, .int .u8 n] w fun e w' => e = .returned (.bool true) ∧ New w w' := by
  obtain ⟨i0, hi0, hz0, hz1, hz2⟩ := info_parts ev_info
  have hnw : IntKind.i64.wrap n = n := IntWalk.i64_in _ (by omega)
  have hmw : IntKind.i64.wrap mode = mode := IntWalk.i64_in _ (by omega)
  have hmod : Int.tmod n 9 = n % 9 := Int.tmod_eq_emod_of_nonneg hn.1
  have hmod3 : Int.tmod mode 3 = mode % 3 := Int.tmod_eq_emod_of_nonneg hm.1
  obtain ⟨K, hK⟩ : ∃ K : Nat, n % 9 = K := ⟨(n % 9).toNat, by omega⟩
  have hK8 : K ≤ 8 := by omega
  obtain ⟨md, hmd⟩ : ∃ md, mode % 3 = md := ⟨_, rfl⟩
  have hmd3 : 0 ≤ md ∧ md ≤ 2 := by omega
  have hKw : IntKind.i64.wrap (K : Int) = K := IntWalk.i64_in _ (by omega)
  have hmdw : IntKind.i64.wrap md = md := IntWalk.i64_in _ (by omega)
  obtain ⟨fa, hfa⟩ : ∃ fa, andI a 31 = fa := ⟨_, rfl⟩
  obtain ⟨fb, hfb⟩ : ∃ fb, andI b 31 = fb := ⟨_, rfl⟩
  have hba : bits .and .u8 a 31 = fa := (u8_andI ha.1 ha.2 (by omega) (by omega)).trans hfa
  have hbb : bits .and .u8 b 31 = fb := (u8_andI hb.1 hb.2 (by omega) (by omega)).trans hfb
  have hfa31 : 0 ≤ fa ∧ fa ≤ 31 := by
    rw [← hfa]; unfold andI
    have := @Nat.and_le_right a.toNat 31
    simp; omega
  have hfb31 : 0 ≤ fb ∧ fb ≤ 31 := by
    rw [← hfb]; unfold andI
    have := @Nat.and_le_right b.toNat 31
    simp; omega
  rw [hK] at hmod
  rw [hmd] at hmod3
  clear hfa hfb hK hmd
  go_enter Tryz.func3, Tryz.ntmps3
  go_wp2_with fail
  go_quiet (fail)
  go_wp2_with fail
  refine (snew_any 2 (by omega) (by omega) 5 (by omega) (by omega) 1 (by omega) (by omega) _).mono ?_
  rintro e w1 ⟨S, base, rfl, hcap, _, hS⟩
  rw [show max (1 : Int) 1 = 1 by decide] at hS
  obtain ⟨W0, hn0, hS⟩ : ∃ W0, New w W0 ∧ STX W0 base w1 S Qs.none [] 1 0 1 := ⟨_, ((New.refl w).alloc _).drewN _, hS⟩
  have HN0 := Lib.hid hn0
  have HT0 : Hid (TeR W0 w1 base S Qs.none [] 1 0 1 0 ∧ ∀ i, Qs.none.l i = []) := Lib.hid ⟨⟨hS, rfl⟩, fun _ => rfl⟩
  have HCAP := Lib.hid hcap
  clear hS hcap hn0
  go_wp2
  go_loopw [31] (fun vi wr => ∃ (j : Nat) (Q : Qs), vi = .int .i64 j ∧ j ≤ K ∧ Hid (TeR W0 wr base S Q [] 1 0 1 j ∧ ∀ i, Q.l i = [])) (fun vi _ => K - (intOf vi).toNat)
  case atStart => exact ⟨0, Qs.none, rfl, Nat.zero_le _, HT0.out⟩
  case round =>
    obtain ⟨j, Q, rfl, hj, HR⟩ := hrel
    clear HT0
    by_cases hlt : j < K
    · have hd : decide ((j : Int) < K) = true := decide_eq_true (by omega)
      have hw1 : IntKind.i64.wrap ((j : Int) + 1) = (j : Int) + 1 := IntWalk.i64_in _ (by omega)
      go_wp2_with fail
      refine (ssub_any HR.out.1.st j (by omega) (by omega) (by rw [HR.out.1.ids, idsTo_mem]; omega) (by rw [HR.out.1.ids, idsTo_len]; omega)).mono ?_
      rintro e w2 ⟨A, c, bq, rfl, _, hS2, _, _⟩
      have HR2 : Hid (TeR W0 w2 base S (Q.add j bq) [] 1 0 1 (j + 1) ∧ ∀ i, (Q.add j bq).l i = []) := Lib.hid ⟨⟨hS2, by rw [idsTo_succ, ← HR.out.1.ids]; rfl⟩, fun i => by
        simp only [Qs.add]
        split
        · rfl
        · exact HR.out.2 i⟩
      clear hS2
      go_wp2
      go_roundw
      case rel => exact ⟨j + 1, _, by go_num, by omega, HR2.out⟩
      case measure => simp [intOf]; omega
    · have hd : decide ((j : Int) < K) = false := decide_eq_false (by omega)
      obtain rfl : j = K := by omega
      clear hd hj hlt
      have hap := sappend_any HR.out.1.st (by rw [HCAP.out]; decide) (by omega) (fun i _ => by rw [HR.out.2 i]; simp) fa hfa31 none 0 0 [] (Rd.nil _ _) (by simp) (fun b' hb' => by cases hb')
      have HAP := Lib.hid hap
      clear hap
      go_wp2_with fail
      refine HAP.out.mono ?_
      rintro e w2 ⟨rfl, u', v', hS2, _, _⟩
      obtain ⟨S2, Q2, hs, hS2', hids, hl⟩ : ∃ S2 Q2, S2.s = S.s ∧ STX W0 base w2 S2 Q2 [⟨1, fa, []⟩] 2 1 1 ∧ Q2.ids = idsTo j ∧ ∀ i, Q2.l i = [⟨1, 1, 0⟩] :=
        ⟨_, _, rfl, hS2, HR.out.1.ids, fun i => by show toldL (fun _ => true) ⟨1, 1, 0⟩ Q i = _; simp [toldL, HR.out.2 i]⟩
      clear hS2
      have HPS : Hid (Value.pointer (some ⟨S2.s, 0, none⟩) = .pointer (some ⟨S.s, 0, none⟩)) := Lib.hid (by rw [hs])
      have hfm : findM [(⟨1, fa, []⟩ : Msg)] 1 = some ⟨1, fa, []⟩ := by simp [findM]
      have hcs : (chg fa md fb).isSome = true := by
        unfold chg
        rw [if_neg (by omega)]
        split
        · rfl
        · split
          · rfl
          · split
            · rfl
            · omega
      have hfc : flC [(⟨1, fa, []⟩ : Msg)] 1 md fb = 0 := by unfold flC; rw [hfm]; simp only; rw [if_pos hcs]
      obtain ⟨fx, hfx⟩ : ∃ fx, flX [(⟨1, fa, []⟩ : Msg)] 1 md fb = fx := ⟨_, rfl⟩
      obtain ⟨M3, hM3⟩ : ∃ M3, flM [(⟨1, fa, []⟩ : Msg)] 1 md fb = M3 := ⟨_, rfl⟩
      have hev : ∀ i, chEv [(⟨1, fa, []⟩ : Msg)] 0 1 md fb i = if fx ≠ fa ∧ i ≠ 0 then [⟨3, 1, fx⟩] else [] := fun i => by
        unfold chEv
        rw [hfc, hfx, hfm]
        simp
      have hch := schange_any hS2' (fun i _ => by rw [hl i]; simp) 0 1 md fb (by omega) (by omega) (by omega) (okI (by omega) (by omega))
      rw [hfc, hfx, hM3, HPS.out] at hch
      have HCH := Lib.hid hch
      have HEV := Lib.hid hev
      have HL := Lib.hid hl
      have HIDS := Lib.hid hids
      clear hch hev hl hids hS2' hfm hcs hfc hfx hM3 hs
      go_wp2_with fail
      refine HCH.out.mono ?_
      rintro e w3 ⟨rfl, Q3, hS3, _, hids3, hl3⟩
      have H3 : Hid (STX W0 base w3 S2 Q3 M3 2 1 1 ∧ Q3.ids = idsTo j ∧ ∀ i : Int, ((0 : Nat) : Int) ≤ i → Q3.l i = [⟨1, 1, 0⟩] ++ if fx ≠ fa ∧ i ≠ 0 then [⟨3, 1, fx⟩] else []) := Lib.hid ⟨hS3, hids3.trans HIDS.out, fun i _ => by rw [hl3 i, HL.out i, HEV.out i]⟩
      clear hS3 hids3 hl3 HCH HEV HL HIDS HR
      go_wp2
      go_loopw [57] (fun vi wr => ∃ (i : Nat) (Q : Qs), vi = .int .i64 i ∧ i ≤ j ∧ Hid (STX W0 base wr S2 Q M3 2 1 1 ∧ Q.ids = idsTo j ∧ ∀ x : Int, (i : Int) ≤ x → Q.l x = [⟨1, 1, 0⟩] ++ if fx ≠ fa ∧ x ≠ 0 then [⟨3, 1, fx⟩] else [])) (fun vi _ => j - (intOf vi).toNat)
      case atStart => exact ⟨0, Q3, rfl, Nat.zero_le _, H3.out⟩
      case round =>
        obtain ⟨i, Q, rfl, hi, HR⟩ := hrel
        clear H3
        by_cases hlt : i < j
        · have hd : decide ((i : Int) < j) = true := decide_eq_true (by omega)
          have hw1 : IntKind.i64.wrap ((i : Int) + 1) = (i : Int) + 1 := IntWalk.i64_in _ (by omega)
          have hb5 : Blk (wr.alloc (.cells #[.int .i64 1, .int .u32 1, .int .u8 0] 36)) wr.heap.size 36 #[.int .i64 1, .int .u32 1, .int .u8 0] := Blk.new _ _ _
          have hlx := HR.out.2.2 i (by omega)
          have HFT := Lib.hid (fun k (hk : S2.foot Q k) => HR.out.1.foot_lt hk)
          by_cases hc : fx ≠ fa ∧ 0 < i
          · obtain ⟨hc1, hc2⟩ := hc
            have hdf : (fx != fa) = true := by simpa using hc1
            have hdi : decide ((0 : Int) < i) = true := decide_eq_true (by omega)
            have hdi2 : decide (0 < i) = true := decide_eq_true hc2
            rw [if_pos ⟨hc1, by omega⟩] at hlx
            have HLX := Lib.hid hlx
            have hO := (Own.of_blk (E := evE) hb5 (l := [⟨1, 1, 0⟩]) (base := wr.heap.size) rfl (Nat.le_refl _) (by simp [maxLen])).alloc (.cells #[.int .i64 3, .int .u32 1, .int .u8 fx] 36)
            have hrd3 : Rd evE ((wr.alloc (.cells #[.int .i64 1, .int .u32 1, .int .u8 0] 36)).alloc (.cells #[.int .i64 3, .int .u32 1, .int .u8 fx] 36)) (.slice (some ⟨wr.heap.size + 1, 0, none⟩) 1 1) [⟨3, 1, fx⟩] := rd_block evE (Blk.new1 _ _ _ _) [⟨3, 1, fx⟩] rfl
            clear hc1 hc2 hlx
            go_wp2_with (first
              | (at_builtin; refine wpList_append (E := evE) rfl _ _ _ rfl Tryz.underlying37 hi0 hz0 hz1 hz2 rfl hO rfl hrd3 rfl (by unfold maxLen; simp) (by simp) (by simp; omega) ?_; intro v2 w2 hv2 hf2 hl2; obtain ⟨A2, N2, C2, hv2e⟩ := own_shape hv2; subst hv2e)
              | fail)
            have hnw2 : New wr w2 := New.two (((New.refl wr).alloc _).alloc _) hf2 fun k hk => by cases hk; exact Nat.le_refl _
            have hS2 := HR.out.1.more hnw2
            have hfl := sflush_any hS2 (i : Int) (by omega) (by omega) (by rw [HR.out.2.1, idsTo_mem]; omega) true (by rw [HLX.out]; simp)
            rw [HLX.out, List.singleton_append, sq2, HPS.out] at hfl
            have HFL := Lib.hid hfl
            have HV2 := Lib.hid hv2
            clear hfl hS2 hnw2 hv2 hf2 hl2 hO hrd3 hb5
            go_wp2_with fail
            refine HFL.out.mono ?_
            rintro e w4 ⟨A4, c4, v4, rfl, ho4, hS4, hf4⟩
            have hv4 := HV2.out.fr hf4 fun b hb hs => by
              have h1 := (HV2.out.block hb).1
              have h2 := HFT.out b hs
              omega
            have HE := Lib.hid (equal_any _ _ [⟨1, 1, 0⟩, ⟨3, 1, fx⟩] [⟨1, 1, 0⟩, ⟨3, 1, fx⟩] _ ho4.rd hv4.rd (by simp) (by simp))
            have HS4 := Lib.hid hS4
            clear ho4 hS4 hf4 hv4
            go_wp2_with fail
            refine HE.out.mono ?_
            first | rw [decide_eq_true rfl] | rw [decide_true]
            rintro e w5 ⟨rfl, hn5⟩
            go_wp2
            go_roundw
            case rel => exact ⟨i + 1, _, by go_num, by omega, HS4.out.more hn5, HR.out.2.1, fun x hx => by
              simp only [Qs.upd]
              rw [if_neg (by omega)]
              exact HR.out.2.2 x (by omega)⟩
            case measure => simp [intOf]; omega
          · have hqq : (0 < i ∧ (fx != fa) = false) ∨ i = 0 := by
              by_cases h0 : i = 0
              · exact .inr h0
              · refine .inl ⟨by omega, ?_⟩
                by_cases h1 : fx = fa
                · simp [h1]
                · exact absurd ⟨h1, by omega⟩ hc
            rw [if_neg (fun h => hc ⟨h.1, by omega⟩), List.append_nil] at hlx
            have HLX := Lib.hid hlx
            have hnw2 : New wr (wr.alloc (.cells #[.int .i64 1, .int .u32 1, .int .u8 0] 36)) := (New.refl wr).alloc _
            have hS2 := HR.out.1.more hnw2
            have hfl := sflush_any hS2 (i : Int) (by omega) (by omega) (by rw [HR.out.2.1, idsTo_mem]; omega) true (by rw [HLX.out]; simp)
            rw [HLX.out, squeeze1, HPS.out] at hfl
            have HFL := Lib.hid hfl
            have HB5 := Lib.hid hb5
            have HQQ := Lib.hid hqq
            clear hfl hS2 hnw2 hlx hc hb5 hqq
            have HT : Hid (∀ (e : Ending) (w4 : World), (∃ A c v', e = .returned (.slice A ([⟨1, 1, 0⟩] : List Ev).length c) ∧ Own evE 36 (wr.alloc (.cells #[.int .i64 1, .int .u32 1, .int .u8 0] 36)).heap.size w4 (.slice A ([⟨1, 1, 0⟩] : List Ev).length c) [⟨1, 1, 0⟩] ∧
                STX W0 base w4 S2 (Q.upd i v' ((([⟨1, 1, 0⟩] : List Ev)).filter fun x => !(true || decide (x.k ≠ 2)))) M3 2 1 1 ∧ Fr (S2.foot Q) (wr.alloc (.cells #[.int .i64 1, .int .u32 1, .int .u8 0] 36)) w4) →
                ∃ A c Q', e = .returned (.slice A 1 c) ∧ Calls Tryz.prog 11 #[.slice A 1 c, .slice (some ⟨wr.heap.size, 0, none⟩) 1 1] w4 fun e w' => e = .returned (.bool true) ∧ STX W0 base w' S2 Q' M3 2 1 1 ∧ Q'.ids = idsTo j ∧ ∀ x : Int, ((i + 1 : Nat) : Int) ≤ x → Q'.l x = [⟨1, 1, 0⟩] ++ if fx ≠ fa ∧ x ≠ 0 then [⟨3, 1, fx⟩] else []) := Lib.hid (by
              rintro e w4 ⟨A4, c4, v4, rfl, ho4, hS4, hf4⟩
              refine ⟨A4, c4, Q.upd i v4 ((([⟨1, 1, 0⟩] : List Ev)).filter fun x => !(true || decide (x.k ≠ 2))), rfl, ?_⟩
              have hb4 := hf4.blk HB5.out fun hs => by have := HFT.out _ hs; omega
              refine (equal_any _ _ [⟨1, 1, 0⟩] [⟨1, 1, 0⟩] _ ho4.rd (rd_block evE hb4 [⟨1, 1, 0⟩] rfl) (by simp) (by simp)).mono ?_
              rw [decide_eq_true rfl]
              rintro e w5 ⟨rfl, hn5⟩
              exact ⟨rfl, hS4.more hn5, HR.out.2.1, fun x hx => by
                simp only [Qs.upd]
                rw [if_neg (by omega)]
                exact HR.out.2.2 x (by omega)⟩)
            rcases HQQ.out with ⟨h0, hdf⟩ | h0
            · have hdi : decide ((0 : Int) < i) = true := decide_eq_true (by omega)
              have hdi2 : decide (0 < i) = true := decide_eq_true h0
              go_wp2_with fail
              refine HFL.out.mono ?_
              intro e w4 hq4
              obtain ⟨A4, c4, Q4, rfl, hq5⟩ := HT.out e w4 hq4
              have HE := Lib.hid hq5
              clear hq4 hq5
              go_wp2_with fail
              refine HE.out.mono ?_
              rintro e w5 ⟨rfl, h5⟩
              have H5 := Lib.hid h5
              clear h5
              go_wp2
              go_roundw
              case rel => exact ⟨i + 1, Q4, by go_num, by omega, H5.out⟩
              case measure => simp [intOf]; omega
            · subst h0
              go_wp2_with fail
              refine HFL.out.mono ?_
              intro e w4 hq4
              obtain ⟨A4, c4, Q4, rfl, hq5⟩ := HT.out e w4 hq4
              have HE := Lib.hid hq5
              clear hq4 hq5
              go_wp2_with fail
              refine HE.out.mono ?_
              rintro e w5 ⟨rfl, h5⟩
              have H5 := Lib.hid h5
              clear h5
              go_wp2
              go_roundw
              case rel => exact ⟨1, Q4, by go_num, by omega, H5.out⟩
              case measure => simp [intOf]; omega
        · have hd : decide ((i : Int) < j) = false := decide_eq_false (by omega)
          go_wp2_with fail
          refine (malive_any _).mono ?_
          rintro e w4 ⟨rfl, hn4⟩
          go_wp2
          go_ret
          exact ⟨rfl, (HN0.out.trans HR.out.1.new).trans hn4⟩

/-- The law, its arguments in order. -/
theorem tells_any (x : Int × Int) (mode n : Int) (w : World) (hx : (0 ≤ x.1 ∧ x.1 ≤ 255) ∧ (0 ≤ x.2 ∧ x.2 ≤ 255)) (h0 : 0 ≤ mode) (h1 : mode ≤ 255) (h2 : 0 ≤ n) (h3 : n ≤ 255) :
    Calls Tryz.prog 3 #[.agg #[.int .u8 x.1, .int .u8 x.2], .int .u8 mode, .int .u8 n] w fun e w' => e = .returned (.bool true) ∧ New w w' := tells_law x.1 x.2 mode n w hx.1 hx.2 ⟨h0, h1⟩ ⟨h2, h3⟩

end Go.Proofs.YtdbbchifkjhfcaaGreat
end

section
/- How an argument that is an array of two bytes is opened. -/
namespace Go.Proofs.YtdbbchifkjhfcaaGreat
open Go.ChangeShapes Go.WideShapes Go.ChangeAt Go.RowKit

set_option maxRecDepth 100000 in
theorem open_u8x2 {H : Type} {enc : TypeId × Value → H} {W : World} {base : Nat} {v : Value} {d : DataW H} {p : List MemPlace}
    (hv : Value.okWide Tryz.prog W .any base 22 v) (h : DataW.Trod enc Tryz.prog W 0 (fun _ => true) true 22 v d p) :
    ∃ x : Int × Int, v = .agg #[.int .u8 x.1, .int .u8 x.2] ∧ (0 ≤ x.1 ∧ x.1 ≤ 255) ∧ (0 ≤ x.2 ∧ x.2 ≤ 255) := by
  simp only [Value.okWide, Tryz.underlying22] at hv
  obtain ⟨cs, rfl, hs, _⟩ := hv
  rw [show Tryz.prog.cellsOf 22 = 2 from by kernel_rfl] at hs
  obtain ⟨a, b, rfl⟩ : ∃ a b, cs = #[a, b] := by
    obtain ⟨l⟩ := cs
    match l, hs with
    | [a, b], _ => exact ⟨a, b, rfl⟩
  obtain ⟨fuel, hf⟩ := h
  cases fuel with
  | zero => simp [DataW.trod] at hf
  | succ m =>
    rw [DataW.trod_step] at hf
    unfold DataW.trodStep at hf
    simp only [Tryz.underlying22, Value.cells] at hf
    rw [if_pos (by rw [show Tryz.prog.cellsOf 22 = 2 from by kernel_rfl]; rfl)] at hf
    simp only [Option.map_eq_some_iff] at hf
    obtain ⟨ys, hy, _⟩ := hf
    rw [show List.range 2 = [0, 1] from rfl, show Tryz.prog.cellsOf 5 = 1 from by kernel_rfl] at hy
    rw [List.mapM_cons] at hy
    simp only [Option.bind_eq_bind, Option.bind_eq_some_iff] at hy
    obtain ⟨y0, h0, ys1, h1, _⟩ := hy
    rw [List.mapM_cons] at h1
    simp only [Option.bind_eq_bind, Option.bind_eq_some_iff] at h1
    obtain ⟨y1, h1, _⟩ := h1
    obtain ⟨x0, e0, _, w0⟩ := DataW.trod_int Tryz.underlying5 h0
    obtain ⟨x1, e1, _, w1⟩ := DataW.trod_int Tryz.underlying5 h1
    simp at e0 e1
    subst e0 e1
    exact ⟨(x0, x1), rfl, bounds_u8 w0, bounds_u8 w1⟩

end Go.Proofs.YtdbbchifkjhfcaaGreat
end

