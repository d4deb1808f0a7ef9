/- An index: the test that find hands to sort.Search. -/
import Derived.Test.YtmhhmenhfocfjaaIdx2
import Derived.Test.YtmhhmenhfocfjaaSearch
import Derived.Shelf.Abstract
namespace Go.Proofs.Ytmhhmenhfocfjaa
open Go.RowKit Go.Shelf Go.Proofs

set_option maxHeartbeats 800000 in
theorem find1_any {base x bx bu : Nat} {w W : World} {l : List Int} {uid : Int} (h : IdxAt base w x l) (hbx : w.cell? ⟨bx, 0, none⟩ = some (.pointer (some ⟨x, 0, none⟩))) (hbu : w.cell? ⟨bu, 0, none⟩ = some (.int .u32 uid)) (hn : New w W) (i : Nat) (y : Int) (hy : l[i]? = some y) (hl : l.length ≤ 100000) :
    Calls Try.prog 34 #[.int .i64 i, .pointer (some ⟨bx, 0, none⟩), .pointer (some ⟨bu, 0, none⟩)] W fun e w' => e = .returned (.bool (decide (uid ≤ y))) ∧ New w w' := by
  obtain ⟨u, hb, hr⟩ := h
  obtain ⟨A, c, rfl, hlc, hcells⟩ := hr.rd.ints
  have hi : i < l.length := (List.getElem?_eq_some_iff.1 hy).1
  obtain ⟨b, off, rfl, hcell⟩ := hcells (by rintro rfl; simp at hi)
  have c1 := fun n => (Fr.cell (hn.drewN n) (hb.cell 0) id : (W.drewN n).cell? ⟨x, 0, none⟩ = some (.slice (some ⟨b, off, none⟩) l.length c))
  have c2 := fun n => Fr.cell (hn.drewN n) hbx id
  have c3 := fun n => Fr.cell (hn.drewN n) hbu id
  have c4 := fun n => Fr.cell (hn.drewN n) (hcell i y hy) id
  have hiI : (i : Int) < l.length := by omega
  have HN := Lib.hid hn
  clear hn hcell hcells hr hb hbx hbu hy
  go_enter Try.func34, Try.ntmps34
  go_wp2_with fail
  go_quiet (fail)
  go_wp2
  go_ret
  exact ⟨rfl, HN.out.drewN _⟩

/-- Place k is where uid stands, or would stand, in an ascending list. -/
def FindAt (l : List Int) (uid : Int) (k : Nat) : Prop := k ≤ l.length ∧ (k = 0 ∨ ∃ y, l[k - 1]? = some y ∧ ¬ uid ≤ y) ∧ (k = l.length ∨ ∃ y, l[k]? = some y ∧ uid ≤ y)

set_option maxHeartbeats 800000 in
theorem find_any {base x : Nat} {w : World} {l : List Int} (h : IdxAt base w x l) (hl : l.length ≤ 100000) (uid : Int) :
    Calls Try.prog 27 #[.pointer (some ⟨x, 0, none⟩), .int .u32 uid] w fun e w' => ∃ k : Nat, e = .returned (.int .i64 k) ∧ FindAt l uid k ∧ New w w' := by
  have hn1 : New w ((w.alloc (.cells #[.pointer (some ⟨x, 0, none⟩)] 25)).alloc (.cells #[.int .u32 uid] 28)) := ((New.refl w).alloc _).alloc _
  have b1 := (Blk.new w 25 #[.pointer (some ⟨x, 0, none⟩)]).alloc (.cells #[.int .u32 uid] 28)
  have b2 := Blk.new (w.alloc (.cells #[.pointer (some ⟨x, 0, none⟩)] 25)) 28 #[.int .u32 uid]
  rw [World.size_alloc] at b2
  have h1 := h.new hn1
  have hs := search_any 34 #[.pointer (some ⟨w.heap.size, 0, none⟩), .pointer (some ⟨w.heap.size + 1, 0, none⟩)] l.length (fun i => decide (uid ≤ l[i]?.getD 0)) _ (enters_of Try.func34 (by kernel_rfl) rfl) (by omega)
    (fun W i hi hW => find1_any h1 (b1.cell 0) (b2.cell 0) hW i (l[i]?.getD 0) (by rw [List.getElem?_eq_getElem hi]; rfl) hl)
  have HS := Lib.hid hs
  obtain ⟨u, hb, hr⟩ := h1
  obtain ⟨A, c, rfl, _⟩ := hr.form
  have c0 := b1.cell 0
  have c1 : ((w.alloc (.cells #[.pointer (some ⟨x, 0, none⟩)] 25)).alloc (.cells #[.int .u32 uid] 28)).cell? ⟨x, 0, none⟩ = some (.slice A l.length c) := hb.cell 0
  clear hs hr hb h
  go_enter Try.func27, Try.ntmps27
  go_wp2_with fail
  refine HS.out.mono ?_
  rintro e w1 ⟨k, rfl, hk, hk1, hk2, hn2⟩
  go_wp2
  go_ret
  refine ⟨k, rfl, ⟨hk, ?_, ?_⟩, hn1.trans hn2⟩
  · rcases hk1 with h | h
    · exact .inl h
    · by_cases h0 : k = 0
      · exact .inl h0
      · obtain ⟨y, hy⟩ : ∃ y, l[k - 1]? = some y := ⟨_, List.getElem?_eq_getElem (by omega)⟩
        refine .inr ⟨y, hy, ?_⟩
        rw [hy] at h
        simpa using h
  · rcases hk2 with h | h
    · exact .inl h
    · by_cases h0 : k = l.length
      · exact .inl h0
      · obtain ⟨y, hy⟩ : ∃ y, l[k]? = some y := ⟨_, List.getElem?_eq_getElem (by omega)⟩
        refine .inr ⟨y, hy, ?_⟩
        rw [hy] at h
        simpa using h

end Go.Proofs.Ytmhhmenhfocfjaa
