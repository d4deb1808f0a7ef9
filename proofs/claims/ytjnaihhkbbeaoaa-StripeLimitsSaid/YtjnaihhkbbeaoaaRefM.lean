/- The reference of chapter 13: each function's contract. -/
import Derived.Test.YtjnaihhkbbeaoaaMsg
import Derived.Test.YtjnaihhkbbeaoaaSort02
namespace Go.Proofs.Ytjnaihhkbbeaoaa
open Go.RowKit

theorem findI_step {X : List MB} {k : Int} {j : Nat} {x : MB} (hx : X[j]? = some x) (hn : ∀ y ∈ X.take j, y.m.uid ≠ k) (he : x.m.uid = k) : findI (X.map MB.m) k = j := by
  unfold findI
  have hl := (List.getElem?_eq_some_iff.1 hx).1
  have : (X.map MB.m).findIdx? (fun m => decide (m.uid = k)) = some j := by
    rw [List.findIdx?_eq_some_iff_getElem]
    refine ⟨by simpa using hl, by simp [(List.getElem?_eq_some_iff.1 hx).2, he], fun q hq => ?_⟩
    simp only [List.getElem_map, Bool.not_eq_true, decide_eq_false_iff_not]
    exact hn _ (List.mem_iff_getElem?.2 ⟨q, by rw [List.getElem?_take_of_lt hq]; exact List.getElem?_eq_getElem (by omega)⟩)
  rw [this]
theorem findI_not {X : List MB} {k : Int} (hn : ∀ y ∈ X, y.m.uid ≠ k) : findI (X.map MB.m) k = -1 := by
  unfold findI
  have : (X.map MB.m).findIdx? (fun m => decide (m.uid = k)) = none := by
    rw [List.findIdx?_eq_none_iff]
    intro m hm
    obtain ⟨x, hx, rfl⟩ := List.mem_map.1 hm
    simpa using hn x hx
  rw [this]

set_option maxHeartbeats 1600000 in
theorem rfind_any {v : Value} {w : World} {X : List MB} (hv : Rd mbE w v X) (hl : X.length ≤ 100000) (k : Int) :
    Calls Try.prog 33 #[v, .int .u32 k] w fun e w' => e = .returned (.int .i64 (findI (X.map MB.m) k)) ∧ New w w' := by
  obtain ⟨A, c, rfl, hc, hcells⟩ := hv
  have HC := Lib.hid hcells
  clear hcells
  go_enter Try.func33, Try.ntmps33
  go_wp2
  go_loopw [5] (fun vi wr => ∃ j : Nat, vi = .int .i64 j ∧ j ≤ X.length ∧ Hid (∀ y ∈ X.take j, y.m.uid ≠ k) ∧ New w wr) (fun vi _ => X.length - (intOf vi).toNat)
  case atStart => exact ⟨0, rfl, Nat.zero_le _, by simp [Hid], New.refl _⟩
  case round =>
    obtain ⟨j, rfl, hj, HS, hnew⟩ := hrel
    by_cases hlt : j < X.length
    · have hd : decide ((j : Int) < X.length) = true := decide_eq_true (by omega)
      obtain ⟨x, hx⟩ : ∃ x, X[j]? = some x := ⟨_, List.getElem?_eq_getElem hlt⟩
      obtain ⟨b, off, rfl, hcell⟩ := HC.out (by rintro rfl; simp at hlt)
      have cy : wr.cell? ⟨b, off + j * 3, none⟩ = some (.int .u32 x.m.uid) := Fr.cell hnew (hcell j x hx 0 _ rfl) id
      have cyn : ∀ n, (wr.drewN n).cell? ⟨b, off + j * 3, none⟩ = some (.int .u32 x.m.uid) := fun n => cy
      have hkI : (j : Int) < X.length := by omega
      have hw : IntKind.i64.wrap ((j : Int) + 1) = (j : Int) + 1 := IntWalk.i64_in _ (by omega)
      have HX := Lib.hid hx
      clear hcell hx
      obtain ⟨u, hu⟩ : ∃ u, x.m.uid = u := ⟨_, rfl⟩
      rw [hu] at cy cyn
      have HU := Lib.hid hu
      clear hu
      cases hq : (u == k)
      · have hne : ∀ y ∈ X.take (j + 1), y.m.uid ≠ k := by
          intro y hy
          rw [List.take_add_one, HX.out] at hy
          rcases List.mem_append.1 hy with hy | hy
          · exact HS.out y hy
          · simp at hy
            subst hy
            rw [HU.out]
            simpa using hq
        have HN := Lib.hid hne
        clear hne
        go_wp2
        go_roundw
        case rel => exact ⟨j + 1, by go_num, by omega, HN.out, by first | exact hnew | exact hnew.drewN _⟩
        case measure => simp [intOf]; omega
      · have HE := Lib.hid (show findI (X.map MB.m) k = j from findI_step HX.out HS.out (by rw [HU.out]; simpa using hq))
        go_wp2
        go_ret
        exact ⟨by simp [HE.out], by first | exact hnew | exact hnew.drewN _⟩
    · have hd : decide ((j : Int) < X.length) = false := decide_eq_false (by omega)
      have HN := Lib.hid (show findI (X.map MB.m) k = -1 from findI_not (by
        have := HS.out
        rwa [List.take_of_length_le (by omega)] at this))
      go_wp2
      go_ret
      exact ⟨by simp [HN.out], by first | exact hnew | exact hnew.drewN _⟩

end Go.Proofs.Ytjnaihhkbbeaoaa
