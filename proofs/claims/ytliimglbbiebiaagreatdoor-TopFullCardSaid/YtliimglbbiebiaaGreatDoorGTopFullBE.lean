/- A part of the proof: Full11, Full12, OpenSt, OpenRd, TopRow. -/
import Derived.Test.YtliimglbbiebiaaGreatDoorGTopFullAV
import Derived.Test.YtliimglbbiebiaaGreatDoorGTopFullBD
import Derived.Test.YtliimglbbiebiaaGreatDoorGTopFullAA
import Derived.Test.YtliimglbbiebiaaGreatDoorRows
import Derived.ProofKit
import Derived.OpenShut
import Derived.Deep.Slices
import Derived.Deep.Fields
import Derived.ChangeSame
import Derived.Test.YtliimglbbiebiaaGreatDoorGTopFullAT
import Derived.LaidMore
import Derived.Lay
import Derived.Lib.LaidU8
import Derived.Shelf.Vars
import Derived.Stop.Joined

section
/- TopFull: the walk. -/
namespace Go.Proofs.YtliimglbbiebiaaGreatDoor
open Go.RowKit Go.Maps

/-- A round of TopFull is to come: i of them were. -/
structure FuL (w W : World) (base ss n8 k8 nx i : Nat) (xs v x : Nat) (S : Sx) (Q : Qs) (M : List Msg) (t : Int) (u : Value) : Prop where
  s_ : S.s = ss
  cap : S.cap = (n8 : Int)
  q : Q.l 0 = []
  len : M.length = min i (min n8 k8)
  fv : FV w base W S Q M ((nx + M.length : Nat) : Int) t (nx : Int) xs v x u (M.map Msg.uid)

/-- The numbers of a refused round. -/
theorem fu_no (B nx k8 n8 i m : Nat) (h1 : nx + k8 = B) (h2 : n8 ≤ 7) (h3 : k8 ≤ 7) (hm : m = min i (min n8 k8)) (hok : ¬ (i < n8 ∧ i < k8)) :
    ((m : Int) = (n8 : Int) ∨ (m : Int) < (n8 : Int) ∧ ((nx + m : Nat) : Int) = (B : Int)) ∧ nx + m ≤ B ∧ nx < B + 1 ∧ m ≤ 7 ∧ m = min (i + 1) (min n8 k8) := by
  refine ⟨?_, ?_, ?_, ?_, ?_⟩
  · by_cases hnk : n8 ≤ k8
    · left; omega
    · right
      have hm : m = k8 := by omega
      subst hm
      exact ⟨by omega, by rw [h1]⟩
  all_goals omega

set_option maxRecDepth 100000 in
set_option maxHeartbeats 1600000 in
theorem full_short (c k : Nat) (hc : c < 256) (hk : k < 256) (A : Option Addr) (bl bc : Nat) (hbl : bl ≤ 200) (w : World) (body : List Int) (hb : Rd (intE .u8) w (.slice A bl bc) body) (hT : Tabs w) :
    Calls Tryz.prog 5 #[.int .u8 c, .int .u8 k, .slice A bl bc] w fun e w' => e = .returned (.bool true) ∧ New w w' := by
  have hd : decide ((200 : Int) < (bl : Int)) = false := decide_eq_false (by omega)
  have b1 : 0 ≤ (c : Int) % 8 ∧ (c : Int) % 8 ≤ 7 := by omega
  have b2 : 0 ≤ (k : Int) % 8 ∧ (k : Int) % 8 ≤ 7 := by omega
  have B1 := Lib.hid b1
  have B2 := Lib.hid b2
  have HT := Lib.hid hT
  have HB := Lib.hid hb
  clear hT hb b1 b2
  go_enter Tryz.func5, Tryz.ntmps5
  go_wp2_with fail
  have b1 := B1.out
  have b2 := B2.out
  clear B1 B2
  generalize (c : Int) % 8 = cn at *
  generalize (k : Int) % 8 = kn at *
  obtain ⟨n8, rfl⟩ : ∃ n8 : Nat, cn = n8 := ⟨cn.toNat, by omega⟩
  obtain ⟨k8, rfl⟩ : ∃ k8 : Nat, kn = k8 := ⟨kn.toNat, by omega⟩
  obtain ⟨nx, hnx⟩ : ∃ nx : Nat, (4294967295 : Int) - (k8 : Int) = nx := ⟨4294967295 - k8, by omega⟩
  have hn7 : n8 ≤ 7 := by omega
  have hk7 : k8 ≤ 7 := by omega
  rw [hnx]
  have hNX : Hid (nx + k8 = 4294967295 ∧ n8 ≤ 7 ∧ k8 ≤ 7) := Lib.hid ⟨by omega, hn7, hk7⟩
  have hmx : max (nx : Int) 1 = nx := by omega
  have HSN := Lib.hid (snew_any 2 (by omega) (by omega) (n8 : Int) (by omega) (by omega) (nx : Int) (by omega) (by omega) w)
  rw [hmx] at HSN
  clear hnx hmx b1 b2 hn7 hk7
  refine HSN.out.mono ?_
  rintro e w1 ⟨S, base, rfl, hcap, _, hst⟩
  have HCAP := Lib.hid hcap
  have HST := Lib.hid hst
  clear hcap hst
  go_wp2_with (first
    | (go_at_call 16
       refine (xnew_any ⟨S.s, 0, none⟩ 0 (by omega) w1).mono ?_
       rintro e w2 ⟨rfl, hw2⟩
       have x2 := Blk.new w1 98 #[.pointer (some ⟨S.s, 0, none⟩), .int .i64 0, .pointer none, .bool false]
       have n2 : New w1 w2 := hw2 ▸ (New.refl w1).alloc _
       rw [← hw2] at x2
       clear hw2
       have hDS := do_select nx nx (by have := hNX.out; omega) ⟨#[115]⟩ (by decide) (by decide) (HST.out.more n2) x2 HST.out.hb HST.out.new.size HT.out
       have HDS := Lib.hid hDS
       have H2 := Lib.hid (HST.out.more n2)
       clear hDS x2 n2)
    | (go_at_call 17
       refine HDS.out.mono ?_
       rintro e w3 ⟨vr, lr, rfl, _, f3, b, v, x, u, V3⟩
       have HV3 := Lib.hid V3
       clear f3 V3)
    | fail)
  have HR0 : Hid (FuL w w3 base S.s n8 k8 nx 0 w1.heap.size v x { S with vv := (nx : Int), dd := 1 } (Qs.none.add 0 b) [] 0 u) := Lib.hid ⟨rfl, HCAP.out, by simp [Qs.none, Qs.add], by simp, by
    have := HV3.out
    exact this⟩
  obtain ⟨xs, hxs⟩ : ∃ xs, w1.heap.size = xs := ⟨_, rfl⟩
  rw [hxs] at HR0 ⊢
  clear hxs HV3 HDS H2 HST HSN
  go_loopw [37] (fun vi wr => ∃ (i : Nat) (S' : Sx) (Q : Qs) (M : List Msg) (t : Int) (u : Value), vi = .int .i64 i ∧ i ≤ 10 ∧ Hid (FuL w wr base S.s n8 k8 nx i xs v x S' Q M t u)) (fun vi _ => 10 - (intOf vi).toNat)
  case atStart => exact ⟨0, _, _, _, _, _, rfl, by omega, HR0⟩
  case round =>
    obtain ⟨i, S', Q, M, t, u', rfl, hi, HR⟩ := hrel
    clear HR0
    have hNX' := hNX.out
    by_cases hlt : i < 10
    · have hd10 : decide ((i : Int) < 10) = true := decide_eq_true (by omega)
      have hw1 : IntKind.i64.wrap ((i : Int) + 1) = (i : Int) + 1 := IntWalk.i64_in _ (by omega)
      have HPS : Hid (S'.s = S.s) := Lib.hid HR.out.s_
      have hlen := HR.out.len
      have hUI := suids_any HR.out.fv.st
      rw [HPS.out] at hUI
      have HUI := Lib.hid hUI
      clear hUI
      by_cases hok : i < n8 ∧ i < k8
      · have hM : M.length = i := by omega
        have HM := Lib.hid hM
        have hb1 : nx + i < 4294967295 := Nat.lt_of_lt_of_eq (Nat.add_lt_add_left hok.2 nx) hNX'.1
        have hb2 : nx < 4294967296 := Nat.lt_of_le_of_lt (Nat.le_add_right nx i) (Nat.lt_trans hb1 (by decide))
        have hb3 : nx + M.length < 4294967295 := by rw [hM]; exact hb1
        have hq1 : decide ((i : Int) < n8) = true := decide_eq_true (Int.ofNat_lt.2 hok.1)
        have hq2 : decide ((i : Int) < k8) = true := decide_eq_true (Int.ofNat_lt.2 hok.2)
        have hq1n : decide (i < n8) = true := decide_eq_true hok.1
        have hq2n : decide (i < k8) = true := decide_eq_true hok.2
        have hwk : wrap64 (k8 : Int) = (k8 : Int) := IntWalk.wrap64_in _ (by omega)
        have HOK := Lib.hid hok
        clear hlen hM hok hNX'
        go_wp2_with fail
        refine HUI.out.mono ?_
        rintro e w5 ⟨A5, c5, rfl, ho5, n5⟩
        have hv5 := HR.out.fv.new n5
        have hNE := snext_any hv5.st
        rw [HPS.out] at hNE
        have HNE := Lib.hid hNE
        have HV5 := Lib.hid hv5
        clear hNE hv5 ho5 n5
        go_wp2_with fail
        refine HNE.out.mono ?_
        rintro e w6 ⟨rfl, rfl⟩
        have hDO := do_append_ok (nx + M.length) nx hb2 ⟨#[97]⟩ (by decide) (by decide) 0 (by omega) A bl bc HV5.out HR.out.q (by rw [HR.out.cap, HM.out]; exact Int.ofNat_lt.2 HOK.out.1) hb3 body HB.out (by obtain ⟨_, _, e, _⟩ := HB.out; cases e; omega) (by omega) HT.out (by rw [HM.out]; omega)
        rw [HPS.out] at hDO
        have HDO := Lib.hid hDO
        clear hDO
        go_wp2_with fail
        refine HDO.out.mono ?_
        rintro e w7 ⟨vr, r1, tx, rfl, ho7, _, S7, Q7, u7, hs7, hc7, hq7, V7⟩
        obtain ⟨rA, rc, rfl, _⟩ := ho7.form
        obtain ⟨g, rfl⟩ := ho7.some_ (by simp)
        have y0 : w7.cell? ⟨g, 10, none⟩ = some (.int .i64 9) := ho7.cell_at (k := 1) (x := repR ⟨#[97]⟩ 0 tx) rfl (j := 0) rfl
        have y1 : w7.cell? ⟨g, 11, none⟩ = some (.int .u32 0) := ho7.cell_at (k := 1) (x := repR ⟨#[97]⟩ 0 tx) rfl (j := 1) rfl
        have y2 : w7.cell? ⟨g, 12, none⟩ = some (.string ⟨#[97]⟩) := ho7.cell_at (k := 1) (x := repR ⟨#[97]⟩ 0 tx) rfl (j := 2) rfl
        have y3 : w7.cell? ⟨g, 13, none⟩ = some (.int .i64 0) := ho7.cell_at (k := 1) (x := repR ⟨#[97]⟩ 0 tx) rfl (j := 3) rfl
        have y4 : w7.cell? ⟨g, 14, none⟩ = some (.string tx) := ho7.cell_at (k := 1) (x := repR ⟨#[97]⟩ 0 tx) rfl (j := 4) rfl
        have y5 : w7.cell? ⟨g, 15, none⟩ = some (.int .i64 0) := ho7.cell_at (k := 1) (x := repR ⟨#[97]⟩ 0 tx) rfl (j := 5) rfl
        have y6 : w7.cell? ⟨g, 16, none⟩ = some (.int .u8 0) := ho7.cell_at (k := 1) (x := repR ⟨#[97]⟩ 0 tx) rfl (j := 6) rfl
        have y7 : w7.cell? ⟨g, 17, none⟩ = some (.int .u32 0) := ho7.cell_at (k := 1) (x := repR ⟨#[97]⟩ 0 tx) rfl (j := 7) rfl
        have y8 : w7.cell? ⟨g, 18, none⟩ = some (.int .u32 0) := ho7.cell_at (k := 1) (x := repR ⟨#[97]⟩ 0 tx) rfl (j := 8) rfl
        have y9 : w7.cell? ⟨g, 19, none⟩ = some (.slice none 0 0) := ho7.cell_at (k := 1) (x := repR ⟨#[97]⟩ 0 tx) rfl (j := 9) rfl
        have V8 := V7.new ((New.refl w7).alloc (.cells #[.int .i64 9, .int .u32 0, .string ⟨#[97]⟩, .int .i64 0, .string tx, .int .i64 0, .int .u8 0, .int .u32 0, .int .u32 0, .slice none 0 0] 53))
        have e7 : S7.s = S.s := hs7
        have hl7 : (M ++ [(⟨((nx + M.length : Nat) : Int), 0, body⟩ : Msg)]).length = i + 1 := by rw [List.length_append, HM.out]; rfl
        have hU2 := suids_any V8.st
        rw [e7, hl7] at hU2
        have HU2 := Lib.hid hU2
        have hw32 : IntKind.u32.wrap ((nx : Int) + (M.length : Int) + 1) = (nx : Int) + (M.length : Int) + 1 := by rw [HM.out]; unfold IntKind.wrap; simp [IntKind.bits, IntKind.signed]; omega
        have HV8 := Lib.hid V8
        have HL7 := Lib.hid (And.intro e7 (And.intro hc7 (And.intro hq7 hl7)))
        clear hU2 V7 V8 e7 hl7 hs7 hc7 hq7 ho7 HDO HUI HNE
        go_wp2_with fail
        refine HU2.out.mono ?_
        rintro e w9 ⟨A9, c9, rfl, _, n9⟩
        have hN2 := snext_any (HV8.out.new n9).st
        rw [HL7.out.1] at hN2
        have HN2 := Lib.hid hN2
        have HV9 := Lib.hid (HV8.out.new n9)
        clear hN2 n9
        go_wp2_with fail
        refine HN2.out.mono ?_
        rintro e w10 ⟨rfl, rfl⟩
        go_wp2_with fail
        go_roundw
        · refine ⟨i + 1, S7, Q7, _, t + 1, u7, rfl, by omega, Lib.hid ⟨HL7.out.1, by rw [HL7.out.2.1]; exact HR.out.cap, HL7.out.2.2.1, by rw [HL7.out.2.2.2]; have := HOK.out; omega, ?_⟩⟩
          rw [HL7.out.2.2.2]
          have hv := HV9.out
          rw [HM.out] at hv ⊢
          exact hv
        · have e1 : intOf (Value.int IntKind.i64 ((i : Int) + 1)) = (i : Int) + 1 := rfl
          have e2 : intOf (Value.int IntKind.i64 (i : Int)) = (i : Int) := rfl
          rw [e1, e2]
          omega
      · have HFN := Lib.hid (fu_no 4294967295 nx k8 n8 i M.length hNX'.1 hNX'.2.1 hNX'.2.2 hlen hok)
        have HNO : Hid ((M.length : Int) = S'.cap ∨ (M.length : Int) < S'.cap ∧ ((nx + M.length : Nat) : Int) = 4294967295) := Lib.hid (by rw [HR.out.cap]; exact HFN.out.1)
        have HLE : Hid (nx + M.length ≤ 4294967295) := Lib.hid HFN.out.2.1
        have HB2 : Hid (nx < 4294967296) := Lib.hid HFN.out.2.2.1
        have HM10 : Hid (M.length ≤ 7) := Lib.hid HFN.out.2.2.2.1
        have HMI : Hid (M.length = min (i + 1) (min n8 k8)) := Lib.hid HFN.out.2.2.2.2
        have hwk : wrap64 (k8 : Int) = (k8 : Int) := IntWalk.wrap64_in _ (by have := hNX'.2.2; clear hlen hok; omega)
        clear hlen
        clear HFN
        by_cases hi8 : i < n8
        all_goals
          first
            | (have hk8' : ¬ i < k8 := fun h => hok ⟨hi8, h⟩
               have hq1 : decide ((i : Int) < n8) = true := decide_eq_true (Int.ofNat_lt.2 hi8)
               have hq1n : decide (i < n8) = true := decide_eq_true hi8
               have hq2 : decide ((i : Int) < k8) = false := decide_eq_false (fun h => hk8' (Int.ofNat_lt.1 h))
               have hq2n : decide (i < k8) = false := decide_eq_false hk8'
               clear hk8')
            | (have hq1 : decide ((i : Int) < n8) = false := decide_eq_false (fun h => hi8 (Int.ofNat_lt.1 h))
               have hq1n : decide (i < n8) = false := decide_eq_false hi8)
          clear hok hNX' hi8
          go_wp2_with fail
          refine HUI.out.mono ?_
          rintro e w5 ⟨A5, c5, rfl, ho5, n5⟩
          have hv5 := HR.out.fv.new n5
          have hNE := snext_any hv5.st
          rw [HPS.out] at hNE
          have HNE := Lib.hid hNE
          have HV5 := Lib.hid hv5
          have HO5 := Lib.hid ho5
          have N5 := Lib.hid n5
          clear hNE hv5 ho5 n5
          go_wp2_with fail
          refine HNE.out.mono ?_
          rintro e w6 ⟨rfl, rfl⟩
          have hDO := do_append_no (nx + M.length) nx HB2.out ⟨#[97]⟩ (by decide) (by decide) 0 (by omega) A bl bc HV5.out HR.out.q HNO.out HLE.out (by omega) HT.out (by have := HM10.out; omega)
          rw [HPS.out] at hDO
          have HDO := Lib.hid hDO
          clear hDO
          go_wp2_with fail
          refine HDO.out.mono ?_
          rintro e w7 ⟨vr, tx, rfl, ho7, f7, S7, Q7, hs7, hc7, hq7, V7⟩
          obtain ⟨rA, rc, rfl, _⟩ := ho7.form
          obtain ⟨g, rfl⟩ := ho7.some_ (by simp)
          have y0 : w7.cell? ⟨g, 0, none⟩ = some (.int .i64 9) := ho7.cell_at (k := 0) (x := repR ⟨#[97]⟩ 1 tx) rfl (j := 0) rfl
          have y1 : w7.cell? ⟨g, 1, none⟩ = some (.int .u32 0) := ho7.cell_at (k := 0) (x := repR ⟨#[97]⟩ 1 tx) rfl (j := 1) rfl
          have y2 : w7.cell? ⟨g, 2, none⟩ = some (.string ⟨#[97]⟩) := ho7.cell_at (k := 0) (x := repR ⟨#[97]⟩ 1 tx) rfl (j := 2) rfl
          have y3 : w7.cell? ⟨g, 3, none⟩ = some (.int .i64 1) := ho7.cell_at (k := 0) (x := repR ⟨#[97]⟩ 1 tx) rfl (j := 3) rfl
          have y4 : w7.cell? ⟨g, 4, none⟩ = some (.string tx) := ho7.cell_at (k := 0) (x := repR ⟨#[97]⟩ 1 tx) rfl (j := 4) rfl
          have y5 : w7.cell? ⟨g, 5, none⟩ = some (.int .i64 0) := ho7.cell_at (k := 0) (x := repR ⟨#[97]⟩ 1 tx) rfl (j := 5) rfl
          have y6 : w7.cell? ⟨g, 6, none⟩ = some (.int .u8 0) := ho7.cell_at (k := 0) (x := repR ⟨#[97]⟩ 1 tx) rfl (j := 6) rfl
          have y7 : w7.cell? ⟨g, 7, none⟩ = some (.int .u32 0) := ho7.cell_at (k := 0) (x := repR ⟨#[97]⟩ 1 tx) rfl (j := 7) rfl
          have y8 : w7.cell? ⟨g, 8, none⟩ = some (.int .u32 0) := ho7.cell_at (k := 0) (x := repR ⟨#[97]⟩ 1 tx) rfl (j := 8) rfl
          have y9 : w7.cell? ⟨g, 9, none⟩ = some (.slice none 0 0) := ho7.cell_at (k := 0) (x := repR ⟨#[97]⟩ 1 tx) rfl (j := 9) rfl
          have V8 := V7.new ((New.refl w7).alloc (.cells #[.int .i64 9, .int .u32 0, .string ⟨#[97]⟩, .int .i64 1, .string tx, .int .i64 0, .int .u8 0, .int .u32 0, .int .u32 0, .slice none 0 0] 53))
          have hU2 := suids_any V8.st
          rw [hs7] at hU2
          have HU2 := Lib.hid hU2
          have HV8 := Lib.hid V8
          have HL7 := Lib.hid (And.intro hs7 (And.intro hc7 hq7))
          have o7 := HO5.out.fr f7 (fun b hb hk => by
            have h1 := HR.out.fv.ft_lt hk
            have h2 := (HO5.out.block hb).1
            omega)
          have O8 := Lib.hid (o7.alloc (.cells #[.int .i64 9, .int .u32 0, .string ⟨#[97]⟩, .int .i64 1, .string tx, .int .i64 0, .int .u8 0, .int .u32 0, .int .u32 0, .slice none 0 0] 53))
          clear hU2 V7 V8 hs7 hc7 hq7 ho7 HDO HUI HNE f7 o7
          go_wp2_with fail
          refine HU2.out.mono ?_
          rintro e w9 ⟨A9, c9, rfl, ho9, n9⟩
          have HEQ := Lib.hid (uequal_any (.slice A9 M.length c9) (.slice A5 M.length c5) (M.map Msg.uid) (M.map Msg.uid) w9 ho9.rd (O8.out.rd.new n9) (by rw [List.length_map]; have := HM10.out; omega) (by rw [List.length_map]; have := HM10.out; omega))
          have HV9 := Lib.hid (HV8.out.new n9)
          clear ho9 n9
          go_wp2_with fail
          refine HEQ.out.mono ?_
          rintro e w10 ⟨rfl, n10⟩
          have hdl : decide (M.map Msg.uid = M.map Msg.uid) = true := decide_eq_true rfl
          have hN2 := snext_any (HV9.out.new n10).st
          rw [HL7.out.1] at hN2
          have HN2 := Lib.hid hN2
          have HV10 := Lib.hid (HV9.out.new n10)
          clear hN2 n10
          go_wp2_with fail
          refine HN2.out.mono ?_
          rintro e w11 ⟨rfl, rfl⟩
          go_wp2_with fail
          go_roundw
          · exact ⟨i + 1, S7, Q7, M, t, u', rfl, by omega, Lib.hid ⟨HL7.out.1, by rw [HL7.out.2.1]; exact HR.out.cap, HL7.out.2.2, HMI.out, HV10.out⟩⟩
          · have e1 : intOf (Value.int IntKind.i64 ((i : Int) + 1)) = (i : Int) + 1 := rfl
            have e2 : intOf (Value.int IntKind.i64 (i : Int)) = (i : Int) := rfl
            rw [e1, e2]
            omega
    · have hd10 : decide ((i : Int) < 10) = false := decide_eq_false (by omega)
      have HW := Lib.hid (works_any wr (HT.out.new HR.out.fv.st.new))
      clear hNX'
      go_wp2_with fail
      refine HW.out.mono ?_
      rintro e w5 ⟨rfl, n5⟩
      go_wp2
      go_ret
      exact ⟨rfl, HR.out.fv.st.new.trans n5⟩
end Go.Proofs.YtliimglbbiebiaaGreatDoor
end

section
/- TopFull: the walk, at every body. -/
namespace Go.Proofs.YtliimglbbiebiaaGreatDoor
open Go.RowKit Go.Maps

set_option maxRecDepth 100000 in
set_option maxHeartbeats 1600000 in
theorem full_long (c k : Nat) (hc : c < 256) (hk : k < 256) (A : Option Addr) (bl bc : Nat) (hbl : 200 < bl) (w : World) (hT : Tabs w) :
    Calls Tryz.prog 5 #[.int .u8 c, .int .u8 k, .slice A bl bc] w fun e w' => e = .returned (.bool true) ∧ New w w' := by
  have hd : decide ((200 : Int) < (bl : Int)) = true := decide_eq_true (by omega)
  have b1 : 0 ≤ (c : Int) % 8 ∧ (c : Int) % 8 ≤ 7 := by omega
  have b2 : 0 ≤ (k : Int) % 8 ∧ (k : Int) % 8 ≤ 7 := by omega
  have HW := Lib.hid (works_any w hT)
  clear hT
  go_enter Tryz.func5, Tryz.ntmps5
  go_wp2_with fail
  refine HW.out.mono ?_
  rintro e w1 ⟨rfl, n1⟩
  go_wp2
  go_ret
  exact ⟨rfl, n1⟩

theorem full_any (c k : Int) (x : Value × List Int) (w : World) (c0 : 0 ≤ c) (c1 : c ≤ 255) (k0 : 0 ≤ k) (k1 : k ≤ 255) (hx : Rd (intE .u8) w x.1 x.2 ∧ (∀ y ∈ x.2, (Lit.int .u8 y).wf = true) ∧ x.2.length ≤ maxLen) (hT : Tabs w) :
    Calls Tryz.prog 5 #[.int .u8 c, .int .u8 k, x.1] w fun e w' => e = .returned (.bool true) ∧ New w w' := by
  obtain ⟨v, l⟩ := x
  obtain ⟨hr, -, -⟩ := hx
  dsimp only at hr ⊢
  obtain ⟨A, bc, rfl, h2, h3⟩ := hr
  obtain ⟨cn, rfl⟩ : ∃ n : Nat, c = n := ⟨c.toNat, by omega⟩
  obtain ⟨kn, rfl⟩ : ∃ n : Nat, k = n := ⟨k.toNat, by omega⟩
  by_cases hl : l.length ≤ 200
  · exact full_short cn kn (by omega) (by omega) A l.length bc hl w l ⟨A, bc, rfl, h2, h3⟩ hT
  · exact full_long cn kn (by omega) (by omega) A l.length bc (by omega) w hT
end Go.Proofs.YtliimglbbiebiaaGreatDoor
end

section
/- How an argument that is a slice of structs of one-cell fields is opened. Plain lemmas; of no program. -/
namespace Go.Proofs.YtliimglbbiebiaaGreatDoor
open Go.ChangeShapes Go.WideShapes Go.ChangeAt Go.RowKit Go.Deep

section
variable {H : Type} {enc : TypeId × Value → H} {P : Program} {w : World} {base : Nat} {spare : Nat → Bool} {held : Bool}
theorem open_slice_fields {t e : TypeId} {fs : Array Field} {fuel : Nat} {cs : List Value} {x : DataW H × List MemPlace} (ht : P.underlying t = some (.slice e)) (he : P.underlying e = some (.struct fs))
    (hone : oneCellFields P fs = true) (hC : P.cellsOf e = fs.size) (h : DataW.trod enc P w base spare held fuel t cs = some x) :
    (cs = [.slice none 0 0] ∧ x = (.nil, [])) ∨
    ∃ (a : Addr) (len cap m : Nat) (D : Nat → DataW H) (Pl : Nat → List MemPlace), cs = [.slice (some a) len cap] ∧ base ≤ a.block ∧ len ≤ cap ∧ cap ≤ maxLen ∧ m = (if spare a.block then cap else len) ∧
      x = (.slice ((List.range len).map D) ((List.range (m - len)).map fun j => D (len + j)), MemPlace.row a (m * fs.size) ++ (List.range m).flatMap Pl) ∧
      ∀ i, i < m → ∃ (ys : List (DataW H × List MemPlace)) (n : Nat), D i = .agg (ys.map (·.1)) ∧ Pl i = ys.flatMap (·.2) ∧ ys.length = fs.size ∧
        ∀ (j : Nat) (f : Field), fs[j]? = some f → ∃ (v : Value) (y : DataW H × List MemPlace), w.cell? (a.add (i * fs.size + j)) = some v ∧ ys[j]? = some y ∧ DataW.trod enc P w base spare held n f.type [v] = some y := by
  rcases open_slice ht h with h0 | ⟨a, len, cap, m, n, D, Pl, hcs, hb, hl, hm, hmm, hx, hi⟩
  · exact .inl h0
  · refine .inr ⟨a, len, cap, m, D, Pl, hcs, hb, hl, hm, hmm, by rw [hC] at hx; exact hx, fun i him => ?_⟩
    obtain ⟨cs', hc, ht'⟩ := hi i him
    rw [hC] at hc
    obtain ⟨ys, n', hn', hy, hlen, hyl, hf⟩ := DataW.trod_struct he ht'
    obtain ⟨_, hcl, hat⟩ := World.cells?_some hc
    simp only [Prod.mk.injEq] at hy
    refine ⟨ys, n', hy.1, hy.2, hyl, fun j f hj => ?_⟩
    obtain ⟨ho, hk⟩ := hone_of hone j f hj
    have hjl : j < fs.size := (Array.getElem?_eq_some_iff.1 hj).1
    have hcell := hat j hjl
    have hv : cs'[j]? = some (cs'[j]'(by omega)) := List.getElem?_eq_getElem (by omega)
    have h1 := hf j f hj
    rw [ho, hk] at h1
    have hone' : (cs'.drop j).take 1 = [cs'[j]'(by omega)] := by
      rw [List.drop_eq_getElem_cons (by omega)]
      rfl
    rw [hone'] at h1
    have hys : ys[j]? = some (ys[j]'(by omega)) := List.getElem?_eq_getElem (by omega)
    refine ⟨_, _, ?_, hys, h1.trans hys⟩
    rw [← Go.Deep.add_add, hcell, hv]
end

theorem spot_none0 {w : World} {b off : Nat} {s : Option Nat} {v : Value} (h : w.cell? ((⟨b, off, s⟩ : Addr).add 0) = some v) : s = none := by
  simpa [Addr.add] using World.cell?_spot h

end Go.Proofs.YtliimglbbiebiaaGreatDoor
end

section
/- How an argument that is a slice of integers is opened, as a reading. Plain lemmas; of no program. -/
namespace Go.Proofs.YtliimglbbiebiaaGreatDoor
open Go.ChangeShapes Go.WideShapes Go.ChangeAt Go.RowKit Go.Deep

/-- An argument that is a slice of integers, as a reading. -/
theorem open_ints_rd {H : Type} {enc : TypeId × Value → H} {P : Program} {W : World} {base : Nat} {t e : TypeId} {k : IntKind} {v : Value} {d : DataW H} {p : List MemPlace}
    (ht : P.underlying t = some (.slice e)) (he : P.underlying e = some (.int k)) (hC : P.cellsOf e = 1) (hv : Value.okWide P W .any base t v) (h : DataW.Trod enc P W 0 (fun _ => true) true t v d p) :
    ∃ x : Value × List Int, v = x.1 ∧ (Rd (intE k) W x.1 x.2 ∧ (∀ y ∈ x.2, (Lit.int k y).wf = true) ∧ x.2.length ≤ maxLen) := by
  obtain ⟨a0, len0, cap0, rfl⟩ := okWide_slice ht hv
  obtain ⟨fuel, hf⟩ := h
  rcases open_ints ht he hC hf with ⟨hcs, _⟩ | ⟨x, l, c, zs, hcs, _, hl, hm, hz, _, hcell, hwz⟩
  · simp [Value.cells] at hcs
    obtain ⟨rfl, rfl, rfl⟩ := hcs
    exact ⟨(_, []), rfl, Rd.nil _ _, by simp, by simp⟩
  · simp [Value.cells] at hcs
    obtain ⟨rfl, rfl, rfl⟩ := hcs
    have hz' : zs.length = cap0 := by simpa using hz
    have hl0 : (zs.take len0).length = len0 := by rw [List.length_take]; omega
    refine ⟨(_, zs.take len0), rfl, ⟨some x, cap0, by rw [hl0], by rw [hl0]; exact hl, fun hne => ?_⟩, fun y hy => hwz y (List.mem_of_mem_take hy), by show (zs.take len0).length ≤ maxLen; omega⟩
    have hn' : 0 < len0 := by
      rcases Nat.eq_zero_or_pos len0 with h0 | h0
      · subst h0; simp at hne
      · exact h0
    obtain ⟨b, off, sp⟩ := x
    have h0 := hcell 0 (by omega)
    obtain rfl := spot_none0 h0
    refine ⟨b, off, rfl, fun i y hy j u hu => ?_⟩
    have hi : i < len0 := by
      have h2 : i < (zs.take len0).length := (List.getElem?_eq_some_iff.1 hy).1
      omega
    have hc := hcell i (by omega)
    rw [Addr.add_lit] at hc
    rw [List.getElem?_take, if_pos hi] at hy
    have hj : j = 0 := by
      have := (List.getElem?_eq_some_iff.1 hu).1
      simp [intE] at this
      exact this
    subst hj
    simp [intE] at hu
    subst hu
    show W.cell? ⟨b, off + (i * 1 + 0), none⟩ = _
    rw [Nat.mul_one, Nat.add_zero, hc]
    simp [List.getD, hy]

end Go.Proofs.YtliimglbbiebiaaGreatDoor
end

section
/- What the rows of the three top laws share: the wrap that keeps the world's shape beside the laid variables; what the laid variables give the walks (Tabs). -/
namespace Go.Proofs.YtliimglbbiebiaaGreatDoor
open Go.ChangeShapes Go.WideShapes Go.ChangeAt Go.RowKit

section
variable {H : Type} {enc : TypeId × Value → H}
theorem returns_and_shaped {a : Assume} {C : Checked} {os : Os} {f : FuncId} {fn : Func} {s : ChangeSpec} {conds : List PathCond} {apart fresh handsOn again : Bool} {X : World → Array Value → Prop}
    (hX : ∀ (w w' : World) (args : Array Value), w.heap = w'.heap → X w args → X w' args)
    (own : ownKnob C.prog.godebug = none) (started : os.Started) (noInit : C.prog.inits.idxOf? f = none) (hfn : C.prog.funcs[f]? = some fn)
    (witness : ∃ (w : World) (tape : Tape) (i : Input), w.os = os ∧ (w.forCall tape i).Shaped C.prog ∧ i.vars = [] ∧ Input.okWide C.prog (w.forCall tape i) .any w.heap.size f i ∧
      ((s.pre enc C.prog fn conds apart (w.forCall tape i).memory i.args ∧ X (w.forCall tape i).memory i.args) ∧ sizedMet enc C.prog fn (OpenSpec.ofChange s) apart (w.forCall tape i).memory i.args) ∧ a.holds C.prog (lone (Frame.enter C.prog f i.args .normal) [] (w.forCall tape i)))
    (contract : ∀ (W : World) (base : Nat) (args : Array Value) (ds gs : List (DataW H)) (before : List MemPlace),
      (∀ (j : Nat) t v, fn.params[j]? = some t → args[j]? = some v → Value.okWide C.prog W .any base t v) →
      DataW.Whole enc C.prog fn.params.toList s.vars apart W args.toList ds gs before →
      X W args → W.ShapedOpen C.prog →
      Calls C.prog f args W fun e W' => ∃ v, e = .returned v ∧ s.post enc C.prog fn apart fresh handsOn again W args v W') :
    ReturnsInHanded a C os f .any (fun w args => (s.pre enc C.prog fn conds apart w args ∧ X w args) ∧ sizedMet enc C.prog fn (OpenSpec.ofChange s) apart w args) (s.post enc C.prog fn apart fresh handsOn again) := by
  refine returnsInHanded_of_calls own started noInit witness ?_
  intro w tape i _ hsh _ hok hpre _
  obtain ⟨_, _, _, fn', hfn', _, _, _, _, hval⟩ := hok
  have e : fn' = fn := Option.some.inj (hfn'.symm.trans hfn)
  subst e
  obtain ⟨⟨⟨ds, gs, before, hw, _⟩, hx⟩, _⟩ := hpre
  have hw' := DataW.Whole.of_heap (w' := w.forCall tape i) (by rfl) hw
  refine (contract (w.forCall tape i) w.heap.size i.args ds gs before hval hw' (hX _ _ _ (by rfl) hx) hsh).mono fun e W' ⟨v, he, hp⟩ => ?_
  subst he
  exact ChangeSpec.post_blind hp
end

theorem tabIs_of_reads {P : Program} {W : World} {name : String} {k : IntKind} {zs : List Int} {g : Nat} {t e : TypeId} {n : Nat}
    (hg : P.globalNamed name = some g) (hty : (P.globals[g]?).map (·.type) = some t) (ht : P.underlying t = some (.array n e)) (he : P.underlying e = some (.int k)) (hce : P.cellsOf e = 1) (hct : P.cellsOf t = n)
    (h : Lib.VarReads P W name (Lib.tabData k zs)) : Lib.TabIs P W name k zs := by
  obtain ⟨g', t', cs, fuel, p, hg', ht', hvar, hd⟩ := h
  obtain rfl := Option.some.inj (hg.symm.trans hg')
  obtain rfl := Option.some.inj (hty.symm.trans ht')
  unfold Lib.TabIs
  rw [hvar, ← Lib.cells_of_tab ht he hce hct hd]

theorem sp_data : (Rows.laid_strings_asciiSpace : DataW Unit) = Lib.tabData .u8 Lib.asciiSpaceTab := by kernel_rfl
theorem pow_data : (Rows.laid_internal_strconv_uint64pow10 : DataW Unit) = Lib.tabData .u64 Lib.pow10Tab := by kernel_rfl

/-- The nine laid variables. -/
def laid9 : List (String × DataW Unit) := [("strconv.ErrSyntax", Rows.laid_strconv_ErrSyntax), ("strconv.ErrRange", Rows.laid_strconv_ErrRange), ("internal/strconv.uint64pow10", Rows.laid_internal_strconv_uint64pow10), ("math/bits.deBruijn32tab", Rows.laid_math_bits_deBruijn32tab), ("math/bits.deBruijn64tab", Rows.laid_math_bits_deBruijn64tab), ("strings.asciiSpace", Rows.laid_strings_asciiSpace), ("unicode.White_Space", Rows.laid_unicode_White_Space), ("unicode/utf8.first", Rows.laid_unicode_utf8_first), ("unicode/utf8.acceptRanges", Rows.laid_unicode_utf8_acceptRanges)]

theorem tabs_of {W : World} (hL : laidMetH Tryz.prog laid9 W) (hS : W.ShapedOpen Tryz.prog) : Tabs W := by
  rw [MakeChecks.laidMetH_plain _ _ _ (by kernel_rfl)] at hL
  refine ⟨?_, ?_, ?_⟩
  · exact tabIs_of_reads (g := 0) (by kernel_rfl) (by kernel_rfl) Tryz.underlying218 Tryz.underlying5 (by kernel_rfl) (by kernel_rfl) (sp_data ▸ Lib.laidMet.reads hL (by simp [laid9]))
  · exact tabIs_of_reads (g := 3) (by kernel_rfl) (by kernel_rfl) Tryz.underlying400 Tryz.underlying146 (by kernel_rfl) (by kernel_rfl) (pow_data ▸ Lib.laidMet.reads hL (by simp [laid9]))
  · exact cell_of_shapedOpen_int (zero := #[.int .i64 0]) hS (of_decide_eq_true (by kernel_rfl)) (by kernel_rfl) rfl (by kernel_rfl) (by kernel_rfl) Tryz.underlying3

theorem row_own : ownKnob Tryz.prog.godebug = none := by kernel_rfl
theorem row_laidOut : laidOutB Tryz.prog = true := by kernel_rfl
end Go.Proofs.YtliimglbbiebiaaGreatDoor
end

