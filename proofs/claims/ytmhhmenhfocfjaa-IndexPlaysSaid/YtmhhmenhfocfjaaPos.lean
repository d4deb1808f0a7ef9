/- An index: Pos. -/
import Derived.Test.YtmhhmenhfocfjaaFind
namespace Go.Proofs.Ytmhhmenhfocfjaa
open Go.RowKit

/-- What Pos hands back, where find has handed back k. -/
def posAt (l : List Int) (uid : Int) (k : Nat) : Int := if l[k]? = some uid then (k : Int) + 1 else 0

set_option maxHeartbeats 400000 in
theorem pos_nil (u : Int) (w : World) : Calls Try.prog 12 #[.pointer none, .int .u32 u] w fun e w' => e = .returned (.int .i64 0) ∧ w' = w := by
  go_enter Try.func12, Try.ntmps12
  go_wp2
  go_ret
  exact ⟨rfl, rfl⟩

set_option maxHeartbeats 800000 in
theorem pos_any {base x : Nat} {w : World} {l : List Int} (h : IdxAt base w x l) (hl : l.length ≤ 100000) (uid : Int) :
    Calls Try.prog 12 #[.pointer (some ⟨x, 0, none⟩), .int .u32 uid] w fun e w' => ∃ k : Nat, e = .returned (.int .i64 (posAt l uid k)) ∧ FindAt l uid k ∧ New w w' := by
  have HF := Lib.hid (find_any h hl uid)
  have H := Lib.hid h
  clear h
  go_enter Try.func12, Try.ntmps12
  go_wp2_with fail
  refine HF.out.mono ?_
  rintro e w1 ⟨k, rfl, hk, hn⟩
  have h1 := H.out.new hn
  obtain ⟨u, hb, hr⟩ := h1
  obtain ⟨A, c, rfl, hlc, hcells⟩ := hr.rd.ints
  have c0 := fun n => ((hb.drewN n).cell 0 : (w1.drewN n).cell? ⟨x, 0, none⟩ = some (.slice A l.length c))
  have c00 : w1.cell? ⟨x, 0, none⟩ = some (.slice A l.length c) := hb.cell 0
  have HK := Lib.hid hk
  have hkl := hk.1
  have HCL := Lib.hid hcells
  clear hr hb hk hcells
  by_cases hlt : k < l.length
  · have hd : decide ((k : Int) < l.length) = true := decide_eq_true (by omega)
    obtain ⟨y, hy⟩ : ∃ y, l[k]? = some y := ⟨_, List.getElem?_eq_getElem hlt⟩
    obtain ⟨b, off, rfl, hcell⟩ := HCL.out (by rintro rfl; simp at hlt)
    have cy := hcell k y hy
    have cyn : ∀ n, (w1.drewN n).cell? ⟨b, off + k, none⟩ = some (.int .u32 y) := fun n => cy
    have hkI : (k : Int) < l.length := by omega
    have hw : IntKind.i64.wrap ((k : Int) + 1) = (k : Int) + 1 := IntWalk.i64_in _ (by omega)
    have HY := Lib.hid hy
    clear hcell hy
    cases hq : (y == uid)
    · have HQ := Lib.hid hq
      have hpos : posAt l uid k = 0 := by
        unfold posAt
        rw [HY.out, if_neg (by intro e; injection e with e; subst e; simp at hq)]
      go_wp2
      go_ret
      exact ⟨k, by rw [hpos]; rfl, HK.out, by first | exact hn | exact hn.drewN _⟩
    · have HQ := Lib.hid hq
      have hpos : posAt l uid k = (k : Int) + 1 := by
        unfold posAt
        rw [HY.out, if_pos (by have : y = uid := by simpa using hq
                               rw [this])]
      go_wp2
      go_ret
      exact ⟨k, by rw [hpos]; rfl, HK.out, by first | exact hn | exact hn.drewN _⟩
  · have hd : decide ((k : Int) < l.length) = false := decide_eq_false (by omega)
    have hpos : posAt l uid k = 0 := by
      unfold posAt
      rw [List.getElem?_eq_none (by omega), if_neg (by simp)]
    go_wp2
    go_ret
    exact ⟨k, by rw [hpos]; rfl, HK.out, by first | exact hn | exact hn.drewN _⟩

end Go.Proofs.Ytmhhmenhfocfjaa
