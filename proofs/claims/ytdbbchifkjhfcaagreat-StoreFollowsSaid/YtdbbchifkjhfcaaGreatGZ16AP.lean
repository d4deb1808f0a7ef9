/- Part 16 of the proofs of chapter Z16: SAlive, Pos, IdxRm, TblMore, StOps4, IdxF, StOps5. -/
import Derived.Test.YtdbbchifkjhfcaaGreatGZ16AO
import Derived.Lib.SlBytesConst
import Derived.Laws.IdiomCopy

section
/- The chapter's example of a mailbox. -/
namespace Go.Proofs.YtdbbchifkjhfcaaGreat
open Go.RowKit Go.Maps

theorem rd_const {w : World} {C : Array Value} {fr : Nat × Nat} (l : List Int) (hl : C.toList = (intE .u8).cells l) : Rd (intE .u8) (w.alloc (.cells C 5 fr)) (.slice (some ⟨w.heap.size, 0, none⟩) l.length l.length) l := by
  refine ⟨_, _, rfl, Nat.le_refl _, fun _ => ⟨w.heap.size, 0, rfl, fun i x hx j u hu => ?_⟩⟩
  rw [cell_of_row _ w.heap.size _ C _ fr (heap_alloc_new w _), Nat.zero_add, ← Array.getElem?_toList, hl]
  exact (intE .u8).cells_at hx hu

theorem squeeze1 : squeeze (([(⟨1, 1, 0⟩ : Ev)]).filter fun x => true || decide (x.k ≠ 2)) = [⟨1, 1, 0⟩] := by decide

set_option maxRecDepth 100000 in
set_option maxHeartbeats 1600000 in
theorem malive_any (w : World) : Calls Tryz.prog 13 #[] w fun e w' => e = .returned (.bool true) ∧ New w w' := by
  have kc := fun (w : World) (C : Array Value) (n c : Nat) => Lib.run_convert_bytes_const (P := Tryz.prog) w 42 5 C n c Tryz.underlying42 Tryz.underlying5
  go_enter Tryz.func13, Tryz.ntmps13
  go_wp2_with fail
  refine (snew_any 4 (by omega) (by omega) 9 (by omega) (by omega) 0 (by omega) (by omega) _).mono ?_
  rintro e w1 ⟨S, base, rfl, hcap, _, hS⟩
  rw [show max (0 : Int) 1 = 1 by decide] at hS
  have HS := Lib.hid hS
  have HCAP := Lib.hid hcap
  clear hS hcap
  go_wp2_with fail
  refine (ssub_any HS.out 1 (by omega) (by omega) (by simp [Qs.none]) (by simp [Qs.none])).mono ?_
  rintro e w2 ⟨A, c, b, rfl, _, hS2, _, _⟩
  have HS2 := Lib.hid hS2
  clear hS2
  go_wp2_with fail
  have hn2 : New w2 (w2.alloc (.cells #[.int .u8 120] 5 (1, 2))) := (New.refl w2).alloc _
  have hap := sappend_any (HS2.out.more hn2) (by rw [HCAP.out]; decide) (by omega) (fun i hi => by simp only [Qs.add, Qs.none, List.nil_append, List.mem_singleton] at hi ⊢; subst hi; simp) 0 (by omega) (some ⟨w2.heap.size, 0, none⟩) 1 1 [120] (rd_const [120] rfl) (by simp) (fun b' hb' _ hs => by
    cases hb'
    have := HS2.out.foot_lt hs
    simp at this)
  have HAP := Lib.hid hap
  clear hap hn2
  refine HAP.out.mono ?_
  rintro e w3 ⟨rfl, u', v', hS3, _, _⟩
  have hfl := sflush_any hS3 1 (by omega) (by omega) (by simp [Qs.told, Qs.add]) true (by simp [Qs.told, Qs.add, toldL])
  rw [show (Qs.told (Qs.add Qs.none 1 b) (fun _ => true) ⟨1, 1, 0⟩ v').l 1 = [⟨1, 1, 0⟩] by simp [Qs.told, toldL, Qs.add], squeeze1] at hfl
  have HFL := Lib.hid hfl
  clear hfl hS3
  go_wp2_with fail
  refine HFL.out.mono ?_
  rintro e w4 ⟨A4, c4, v4, rfl, ho4, hS4, _⟩
  have hb5 : Blk (w4.alloc (.cells #[.int .i64 1, .int .u32 1, .int .u8 0] 36)) w4.heap.size 36 #[.int .i64 1, .int .u32 1, .int .u8 0] := Blk.new _ _ _
  have HE := Lib.hid (equal_any _ _ [⟨1, 1, 0⟩] [⟨1, 1, 0⟩] _ (ho4.rd.alloc (.cells #[.int .i64 1, .int .u32 1, .int .u8 0] 36)) (rd_block evE hb5 [⟨1, 1, 0⟩] rfl) (by simp) (by simp))
  have HN := Lib.hid (hS4.new.alloc (.cells #[.int .i64 1, .int .u32 1, .int .u8 0] 36))
  clear ho4 hS4 hb5
  go_wp2_with fail
  refine HE.out.mono ?_
  first | rw [decide_eq_true rfl] | rw [decide_true]
  rintro e w5 ⟨rfl, hn5⟩
  go_wp2
  go_ret
  exact ⟨rfl, HN.out.trans hn5⟩

end Go.Proofs.YtdbbchifkjhfcaaGreat
end

section
/- An index: Pos. -/
namespace Go.Proofs.YtdbbchifkjhfcaaGreat
open Go.RowKit

/-- What Pos hands back, where find has handed back k. -/
def posAt (l : List Int) (uid : Int) (k : Nat) : Int := if l[k]? = some uid then (k : Int) + 1 else 0

set_option maxHeartbeats 400000 in
theorem pos_nil (u : Int) (w : World) : Calls Tryz.prog 90 #[.pointer none, .int .u32 u] w fun e w' => e = .returned (.int .i64 0) ∧ w' = w := by
  go_enter Tryz.func90, Tryz.ntmps90
  go_wp2
  go_ret
  exact ⟨rfl, rfl⟩

set_option maxHeartbeats 800000 in
theorem pos_any {base x : Nat} {w : World} {l : List Int} (h : IdxAt base w x l) (hl : l.length ≤ 100000) (uid : Int) :
    Calls Tryz.prog 90 #[.pointer (some ⟨x, 0, none⟩), .int .u32 uid] w fun e w' => ∃ k : Nat, e = .returned (.int .i64 (posAt l uid k)) ∧ FindAt l uid k ∧ New w w' := by
  have HF := Lib.hid (find_any h hl uid)
  have H := Lib.hid h
  clear h
  go_enter Tryz.func90, Tryz.ntmps90
  go_wp2_with fail
  refine HF.out.mono ?_
  rintro e w1 ⟨k, rfl, hk, hn⟩
  have h1 := H.out.new hn
  obtain ⟨u, hb, hr⟩ := h1
  obtain ⟨A, c, rfl, hlc, hcells⟩ := hr.rd.ints
  have c0 := fun n => ((hb.drewN n).cell 0 : (w1.drewN n).cell? ⟨x, 0, none⟩ = some (.slice A l.length c))
  have c00 : w1.cell? ⟨x, 0, none⟩ = some (.slice A l.length c) := hb.cell 0
  have HK := Lib.hid hk
  have hkl := hk.1
  have HCL := Lib.hid hcells
  clear hr hb hk hcells
  by_cases hlt : k < l.length
  · have hd : decide ((k : Int) < l.length) = true := decide_eq_true (by omega)
    obtain ⟨y, hy⟩ : ∃ y, l[k]? = some y := ⟨_, List.getElem?_eq_getElem hlt⟩
    obtain ⟨b, off, rfl, hcell⟩ := HCL.out (by rintro rfl; simp at hlt)
    have cy := hcell k y hy
    have cyn : ∀ n, (w1.drewN n).cell? ⟨b, off + k, none⟩ = some (.int .u32 y) := fun n => cy
    have hkI : (k : Int) < l.length := by omega
    have hw : IntKind.i64.wrap ((k : Int) + 1) = (k : Int) + 1 := IntWalk.i64_in _ (by omega)
    have HY := Lib.hid hy
    clear hcell hy
    cases hq : (y == uid)
    · have HQ := Lib.hid hq
      have hpos : posAt l uid k = 0 := by
        unfold posAt
        rw [HY.out, if_neg (by intro e; injection e with e; subst e; simp at hq)]
      go_wp2
      go_ret
      exact ⟨k, by rw [hpos]; rfl, HK.out, by first | exact hn | exact hn.drewN _⟩
    · have HQ := Lib.hid hq
      have hpos : posAt l uid k = (k : Int) + 1 := by
        unfold posAt
        rw [HY.out, if_pos (by have : y = uid := by simpa using hq
                               rw [this])]
      go_wp2
      go_ret
      exact ⟨k, by rw [hpos]; rfl, HK.out, by first | exact hn | exact hn.drewN _⟩
  · have hd : decide ((k : Int) < l.length) = false := decide_eq_false (by omega)
    have hpos : posAt l uid k = 0 := by
      unfold posAt
      rw [List.getElem?_eq_none (by omega), if_neg (by simp)]
    go_wp2
    go_ret
    exact ⟨k, by rw [hpos]; rfl, HK.out, by first | exact hn | exact hn.drewN _⟩

end Go.Proofs.YtdbbchifkjhfcaaGreat
end

section
/- An index: Remove. -/
namespace Go.Proofs.YtdbbchifkjhfcaaGreat
open Go.RowKit

theorem Fr.setCells {S : Nat → Prop} {a w : World} (b : Nat) (hb : b < a.heap.size → S b) : ∀ (vs : List Value) (o : Nat), Fr S a w → Fr S a (w.setCells b o vs)
  | [], _, h => h
  | v :: vs, o, h => by
    have h1 : Fr S a (w.setCell ⟨b, o, none⟩ v) := Fr.setCell h (p := ⟨b, o, none⟩) hb v
    exact Fr.setCells b hb vs (o + 1) h1

theorem Blk.setCells {g : Nat} {t : TypeId} (b : Nat) : ∀ (vs : List Value) (o : Nat) (w : World) (cs : Array Value), Blk w g t cs → ∃ cs', Blk (w.setCells b o vs) g t cs'
  | [], _, _, cs, h => ⟨cs, h⟩
  | v :: vs, o, w, cs, h => by
    by_cases hb : g = b
    · subst hb
      exact Blk.setCells g vs (o + 1) _ _ (h.set_ o v)
    · exact Blk.setCells b vs (o + 1) _ _ (h.far (p := ⟨b, o, none⟩) hb v)

section
variable {P : Program} {base : Nat} {w : World} {l : List Int}
/-- copy(v[k:], v[k+1:]): what stands at place k is struck. -/
theorem run_close_urow (t ty : TypeId) (hu : P.underlying t = some (.slice 26)) (hs : (P.info? 26).map (·.size) = some 1) {g off c : Nat} (h : URow base w (.slice (some ⟨g, off, none⟩) l.length c) l) (k : Nat) (hk : k < l.length) (A : Option Addr) (hA : k + 1 < l.length → A = some ⟨g, off + (k + 1), none⟩) (cc : Nat) :
    ∃ w', (Builtin.copy_ #[t, t] ty #[.slice (some ⟨g, off + k, none⟩) (l.length - k) (c - k), .slice A (l.length - (k + 1)) cc]).run P w = .ok (.int .i64 (l.length - (k + 1) : Nat)) w' ∧
      URow base w' (.slice (some ⟨g, off, none⟩) (l.length - 1) c) (l.eraseIdx k) ∧ Fr (fun b => b = g) w w' := by
  have hrow := h
  rcases h with ⟨h, _⟩ | ⟨g', off', c', he, hb, hgl, hlc, hcm, hcells, hj⟩
  · cases h
  cases he
  have hel : (l.eraseIdx k).length = l.length - 1 := List.length_eraseIdx_of_lt hk
  by_cases hlast : k + 1 = l.length
  · have hrun := run_copy_none (P := P) w t t ty 26 (some ⟨g, off + k, none⟩) A (l.length - k) (c - k) (l.length - (k + 1)) cc hu hs (by rw [show l.length - (k + 1) = 0 by omega]; simp)
    refine ⟨w, ?_, ?_, Fr.refl _ _⟩
    · rw [hrun, show l.length - (k + 1) = 0 by omega]; rfl
    · refine .inr ⟨g, off, c, by rw [hel], hb, hgl, by omega, hcm, fun i x hx => hcells i x ?_, hj⟩
      rw [List.getElem?_eraseIdx] at hx
      split at hx
      · exact hx
      · have := (List.getElem?_eq_some_iff.1 hx).1; omega
  · obtain rfl := hA (by omega)
    have hcl : ((l.drop (k + 1)).map (Value.int .u32)).length = l.length - (k + 1) := by simp
    have hsrc : ∀ j v, ((l.drop (k + 1)).map (Value.int .u32))[j]? = some v → w.cell? ((⟨g, off + (k + 1), none⟩ : Addr).add j) = some v := by
      intro j v hv
      rw [List.getElem?_map, List.getElem?_drop] at hv
      obtain ⟨x, hx, rfl⟩ := Option.map_eq_some_iff.1 hv
      rw [Addr.add_lit, Nat.add_assoc]
      exact hcells _ x hx
    have hcs : ∀ j, j < ((l.drop (k + 1)).map (Value.int .u32)).length → (w.cell? ⟨g, off + k + j, none⟩).isSome = true := by
      intro j hj'
      obtain ⟨z, hz⟩ := (hj (k + j) (by omega)).1
      rw [Nat.add_assoc, hz]
      rfl
    have hfz : ∀ j, j < ((l.drop (k + 1)).map (Value.int .u32)).length → w.frozen? ⟨g, off + k + j, none⟩ = false := by
      intro j hj'
      rw [Nat.add_assoc]
      exact (hj (k + j) (by omega)).2
    have hrun := run_copy_cells (P := P) w t t ty 26 g (off + k) (l.length - k) (c - k) ⟨g, off + (k + 1), none⟩ (l.length - (k + 1)) cc _ hu hs (by rw [hcl]; exact (Nat.min_eq_left (by omega)).symm) hsrc hcs hfz (by
      intro v hv
      obtain ⟨x, _, rfl⟩ := List.mem_map.1 hv
      rfl)
    refine ⟨_, by rw [hrun, hcl]; rfl, ?_, Fr.setCells (S := fun b => b = g) g (fun _ => rfl) _ _ (Fr.refl _ w)⟩
    have hfr : Fr (fun b => b = g) w (w.setCells g (off + k) ((l.drop (k + 1)).map (Value.int .u32))) := Fr.setCells (S := fun b => b = g) g (fun _ => rfl) _ _ (Fr.refl _ w)
    have hsz := hfr.size
    refine .inr ⟨g, off, c, by rw [hel], hb, by obtain ⟨cs, hgl⟩ := hgl; exact Blk.setCells _ _ _ _ _ hgl, by omega, hcm, fun i x hx => ?_, fun j hjc => ⟨?_, ?_⟩⟩
    · rw [List.getElem?_eraseIdx] at hx
      split at hx
      · rw [World.cell?_setCells_out g _ _ _ _ (fun _ _ => Or.inl (by show off + i < off + k; omega))]
        exact hcells i x hx
      · have hil : i + 1 < l.length := (List.getElem?_eq_some_iff.1 hx).1
        have := World.cell?_setCells_in g ((l.drop (k + 1)).map (Value.int .u32)) (off + k) w hcs (i - k) (by rw [hcl]; omega)
        rw [show off + k + (i - k) = off + i by omega] at this
        rw [this]
        have h2 : (l.drop (k + 1))[i - k]? = some x := by rw [List.getElem?_drop, show k + 1 + (i - k) = i + 1 by omega]; exact hx
        have h3 : ((l.drop (k + 1)).map (Value.int .u32))[i - k]? = some (.int .u32 x) := by rw [List.getElem?_map, h2]; rfl
        rw [List.getElem?_eq_some_iff] at h3
        exact congrArg some h3.2
    · by_cases hin : k ≤ j ∧ j < l.length - 1
      · have := World.cell?_setCells_in g ((l.drop (k + 1)).map (Value.int .u32)) (off + k) w hcs (j - k) (by rw [hcl]; omega)
        rw [show off + k + (j - k) = off + j by omega] at this
        exact ⟨_, this⟩
      · obtain ⟨z, hz⟩ := (hj j hjc).1
        refine ⟨z, ?_⟩
        rw [World.cell?_setCells_out g _ _ _ _ (fun _ _ => ?_)]
        · exact hz
        · rw [hcl]
          by_cases hkj : j < k
          · exact Or.inl (by show off + j < off + k; omega)
          · exact Or.inr (by show off + k + (l.length - (k + 1)) ≤ off + j; omega)
    · rw [World.frozen?_setCells]
      exact (hj j hjc).2

variable {ops : Array Oper} {o : Oper} {a : Act} {K : Act → World → Prop} {Q : Exit → Act → World → Prop}
theorem step_close_urow {F : Prop} (hgd : o.guard = none) (s x : Operand) (t : TypeId) (ho : o.op = .call { callee := .builtin .copy, args := #[s, x], argTypes := #[t, t] })
    (hu : P.underlying t = some (.slice 26)) (hs : (P.info? 26).map (·.size) = some 1) {g off c : Nat} (h : URow base w (.slice (some ⟨g, off, none⟩) l.length c) l) (k : Nat) (hk : k < l.length) (A : Option Addr) (hA : k + 1 < l.length → A = some ⟨g, off + (k + 1), none⟩) (cc : Nat)
    (n2 m : Nat) (h2 : l.length - (k + 1) = n2) (h3 : l.length - 1 = m)
    (hd : a.eval s = .slice (some ⟨g, off + k, none⟩) (l.length - k) (c - k)) (hx : a.eval x = .slice A (l.length - (k + 1)) cc)
    (hK : ∀ w', URow base w' (.slice (some ⟨g, off, none⟩) m c) (l.eraseIdx k) → Fr (fun b => b = g) w w' → K (a.put o.dst (.int .i64 n2)) w') :
    if Region.wanted o (yielded ops a.tmps) = true then Oper.wp P o a w K Q else F := by
  subst h2 h3
  have hw : Region.wanted o (yielded ops a.tmps) = true := by simp [Region.wanted, hgd]
  rw [if_pos hw]
  obtain ⟨w', hr, h1, h2⟩ := run_close_urow (P := P) t o.type hu hs h k hk A hA cc
  unfold Oper.wp execOp
  simp only [ho, resolve, invoke, builtin, Sem.run_bind, Sem.run_pure, Result.andThen_ok, List.map_toArray, List.map_cons, List.map_nil, hd, hx, hr]
  exact hK w' h1 h2
end

set_option maxHeartbeats 400000 in
theorem irm_nil (u : Int) (w : World) : Calls Tryz.prog 68 #[.pointer none, .int .u32 u] w fun e w' => e = .returned (.int .i64 0) ∧ New w w' := by
  go_enter Tryz.func68, Tryz.ntmps68
  go_wp2_with fail
  refine (pos_nil u w).mono ?_
  rintro e w1 ⟨rfl, rfl⟩
  go_wp2
  go_ret
  exact ⟨rfl, New.refl _⟩

/-- What Remove leaves, where find has handed back k. -/
def rmOf (l : List Int) (uid : Int) (k : Nat) : List Int := if l[k]? = some uid then l.eraseIdx k else l

theorem size1 : (Tryz.prog.info? 26).map (·.size) = some 1 := by kernel_rfl

set_option maxRecDepth 100000 in
set_option maxHeartbeats 3200000 in
theorem irm_any {base x : Nat} {w : World} {u : Value} {l : List Int} (h : IdxU base w x u l) (hl : l.length ≤ 100000) (uid : Int) :
    Calls Tryz.prog 68 #[.pointer (some ⟨x, 0, none⟩), .int .u32 uid] w fun e w' => ∃ (k : Nat) (u' : Value), e = .returned (.int .i64 (posAt l uid k)) ∧ FindAt l uid k ∧ IdxU base w' x u' (rmOf l uid k) ∧ IFr x u w w' ∧ Stays w u u' := by
  have HF := Lib.hid (pos_any h.at_ hl uid)
  have H := Lib.hid h
  obtain ⟨A, c, rfl, hlc⟩ := h.2.1.form
  have c0 : w.cell? ⟨x, 0, none⟩ = some (.slice A l.length c) := h.1.cell 0
  have f0 : w.frozen? ⟨x, 0, none⟩ = false := h.1.frozen 0
  clear h
  go_enter Tryz.func68, Tryz.ntmps68
  go_wp2_with fail
  refine HF.out.mono ?_
  rintro e w1 ⟨k, rfl, hk, hn1⟩
  have H1 := Lib.hid (H.out.new hn1)
  have HK := Lib.hid hk
  have hkl := hk.1
  clear hk
  by_cases hq : l[k]? = some uid
  · have hkl2 : k < l.length := (List.getElem?_eq_some_iff.1 hq).1
    have hpos : posAt l uid k = (k : Int) + 1 := if_pos hq
    have hrm : rmOf l uid k = l.eraseIdx k := if_pos hq
    have HP := Lib.hid hpos
    have HR := Lib.hid hrm
    rw [hpos]
    obtain ⟨g, off, rfl, -⟩ : ∃ g off, A = some ⟨g, off, none⟩ ∧ True := by
      obtain ⟨A', c', he, _, hcells⟩ := H1.out.2.1.rd
      cases he
      obtain ⟨b, off, rfl, _⟩ := hcells (by rintro rfl; simp at hkl2)
      exact ⟨b, off, rfl, trivial⟩
    have c1 : ∀ n, (w1.drewN n).cell? ⟨x, 0, none⟩ = some (.slice (some ⟨g, off, none⟩) l.length c) := fun n => H1.out.1.cell 0
    have c10 : w1.cell? ⟨x, 0, none⟩ = some (.slice (some ⟨g, off, none⟩) l.length c) := c1 0
    have hw1 : IntKind.i64.wrap ((k : Int) + 1 - 1) = k := by rw [IntWalk.i64_in _ (by omega)]; omega
    have hw2 : (k : Int) + 1 - 1 = k := by omega
    have hw3 : IntKind.i64.wrap (k : Int) = k := IntWalk.i64_in _ (by omega)
    have hck : c ≠ k := by omega
    have hp0 : decide ((0 : Int) < (k : Int) + 1) = true := decide_eq_true (by omega)
    have b1 : (0 : Int) ≤ (k : Int) := by omega
    have b2 : (k : Int) ≤ (l.length : Int) := by omega
    have b3 : (k : Int) ≤ (c : Int) := by omega
    have b4 : (0 : Int) ≤ (k : Int) + 1 := by omega
    have b5 : (k : Int) + 1 ≤ (l.length : Int) := by omega
    have b6 : (k : Int) + 1 ≤ (c : Int) := by omega
    have b7 : ((k : Int) + 1).toNat = k + 1 := by omega
    clear hpos hrm hq
    go_wp2_with fail
    obtain ⟨n3, hn3⟩ : ∃ n3, l.length - (k + 1) = n3 := ⟨_, rfl⟩
    obtain ⟨m, hm⟩ : ∃ m, l.length - 1 = m := ⟨_, rfl⟩
    have hsum : IntKind.i64.wrap ((k : Int) + (n3 : Int)) = (m : Int) := by rw [IntWalk.i64_in _ (by omega)]; omega
    have hsum2 : (k : Int) + (n3 : Int) = (m : Int) := by omega
    have hmc : m ≤ c := by omega
    have hm0 : (0 : Int) ≤ (m : Int) := by omega
    have hmI : (m : Int) ≤ (c : Int) := by omega
    have hmw : IntKind.i64.wrap (m : Int) = (m : Int) := IntWalk.i64_in _ (by omega)
    have hxb := H1.out.1.lt
    have HN3 := Lib.hid hn3
    have HM := Lib.hid hm
    have HXG := Lib.hid (fun (e : x = g) => H1.out.2.2 (by rw [e]; rfl))
    clear hn3 hm
    go_region_held3 (fun w' => w'.cell? ⟨x, 0, none⟩ = some (.slice (some ⟨g, off, none⟩) l.length c)) (first | go_keep | assumption)
      ((first
        | (refine step_close_urow (by rfl) (.tmp 20) (.tmp 26) 27 (by rfl) Tryz.underlying27 size1 (g := g) (off := off) (c := c) (H1.out.2.1.new (New.refl _).drew) k hkl2 (if c = k + 1 then some ⟨g, off, none⟩ else some ⟨g, off + (k + 1), none⟩) (fun h => if_neg (by omega)) (c - (k + 1)) n3 m HN3.out HM.out (by rfl) (by rfl) ?_
           intro w2 hr2 hf2
           have b2 := Lib.hid (Fr.blk hf2 H1.out.1 HXG.out)
           have c2 : w2.cell? ⟨x, 0, none⟩ = some (.slice (some ⟨g, off, none⟩) l.length c) := b2.out.cell 0
           have f2 : w2.frozen? ⟨x, 0, none⟩ = false := b2.out.frozen 0)
        | fail))
    all_goals go_wp2
    all_goals go_ret
    all_goals (
      refine ⟨k, by rw [HP.out]; rfl, HK.out, ?_⟩
      first
        | (have hce : c = k + 1 := by assumption
           subst hce
           refine ⟨.slice (some ⟨g, off, none⟩) m (k + 1), ?_, ?_, .inl rfl⟩)
        | (refine ⟨.slice (some ⟨g, off, none⟩) m c, ?_, ?_, .inl rfl⟩)
      · rw [HR.out]
        refine ⟨?_, ?_, H1.out.2.2⟩
        · exact b2.out.set_ 0 _
        · exact hr2.fr (Fr.setCell (S := fun k => k = x) (p := ⟨x, 0, none⟩) (Fr.refl _ w2) (fun _ => rfl) _) fun b hb e => H1.out.2.2 (e ▸ hb)
      · have h1 : IFr x (.slice (some ⟨g, off, none⟩) l.length 0) w w2 := Fr.trans' (New.to hn1.drew) hf2 fun i _ h => .inr (by rw [h]; rfl)
        exact Fr.setCell h1 (fun _ => .inl rfl) _)
  · have hpos : posAt l uid k = 0 := if_neg hq
    have hrm : rmOf l uid k = l := if_neg hq
    have HP := Lib.hid hpos
    have HR := Lib.hid hrm
    rw [hpos]
    clear hpos hrm hq
    go_wp2
    go_ret
    exact ⟨k, _, by rw [HP.out]; rfl, HK.out, by rw [HR.out]; exact H1.out, New.to hn1, .inl rfl⟩

end Go.Proofs.YtdbbchifkjhfcaaGreat
end

section
/- A table of messages in stripes: its frame by its own bodies; an empty one, seen from later. -/
namespace Go.Proofs.YtdbbchifkjhfcaaGreat
open Go.RowKit

theorem TBX.rebase {base base' : Nat} {w : World} {T : Tb} (h : TBX base w T []) : TBX base' w T [] := ⟨h.hd, h.n0, h.n1, h.nc, h.pt, h.part, h.map, by simp, h.nd, h.ok, h.qinj, h.minj, h.rtb, h.rpb, h.rq, h.rm, h.top⟩

theorem TBX.fr2 {base : Nat} {w w' : World} {T : Tb} {X : List MB} {S : Nat → Prop} (h : TBX base w T X) (hf : Fr S w w') (hS : ∀ k, S k → ¬ T.foot k) (hB : ∀ x ∈ X, ∀ b, x.bv.ownBlock = some b → ¬ S b) : TBX base w' T X := by
  obtain ⟨cs, hp, hpi⟩ := h.pt
  exact ⟨hf.blk h.hd fun hs => hS _ hs h.rtb, h.n0, h.n1, h.nc, ⟨cs, hf.blk hp fun hs => hS _ hs h.rpb, hpi⟩, fun i hi => hf.blk (h.part i hi) fun hs => hS _ hs (h.rq i hi), fun i hi => (h.map i hi).fr hf fun hs => hS _ hs (h.rm i hi),
    fun x hx => (h.body x hx).fr hf (hB x hx), h.nd, h.ok, h.qinj, h.minj, h.rtb, h.rpb, h.rq, h.rm, Nat.le_trans h.top hf.size⟩

end Go.Proofs.YtdbbchifkjhfcaaGreat
end

section
/- A mailbox: Get, Change. -/
namespace Go.Proofs.YtdbbchifkjhfcaaGreat
open Go.RowKit Go.Maps

/-- A step of a mailbox: what it turns, and what it may turn next. -/
structure Stp (w w' : World) (S : Sx) (Q : Qs) (S' : Sx) (Q' : Qs) : Prop where
  fr : Fr (S.foot Q) w w'
  gr : ∀ k, S'.foot Q' k → S.foot Q k ∨ w.heap.size ≤ k
  s : S'.s = S.s
  cap : S'.cap = S.cap

section
variable {w0 w w' w'' : World} {base : Nat} {S S' S'' : Sx} {Q Q' Q'' : Qs} {M : List Msg} {n t f : Int}

theorem Stp.refl (w : World) (S : Sx) (Q : Qs) : Stp w w S Q S Q := ⟨Fr.refl _ _, fun _ h => .inl h, rfl, rfl⟩
theorem Stp.new (h : New w w') : Stp w w' S Q S Q := ⟨New.to h, fun _ h => .inl h, rfl, rfl⟩
theorem Stp.trans (h : Stp w w' S Q S' Q') (k : Stp w' w'' S' Q' S'' Q'') : Stp w w'' S Q S'' Q'' :=
  ⟨Fr.trans' h.fr k.fr fun i hi hs => by rcases h.gr i hs with h1 | h1; exact h1; omega, fun i hi => by
    rcases k.gr i hi with h1 | h1
    · exact h.gr i h1
    · exact .inr (Nat.le_trans h.fr.size h1), k.s.trans h.s, k.cap.trans h.cap⟩
/-- What the mailbox does not reach it does not reach later. -/
theorem Stp.far (h : Stp w w' S Q S' Q') {g : Nat} (hg : g < w.heap.size) (hf : ¬ S.foot Q g) : ¬ S'.foot Q' g := fun hs => by
  rcases h.gr g hs with h1 | h1
  · exact hf h1
  · omega

theorem results_cell_tmp {P : Program} {fn : Func} {p q : Tmp} {t : TypeId} (h : fn.results = #[.cell p t, .tmp q]) (tmps : Array Value) (w : World) {a : Addr} {v v' : Value}
    (hp : tmps[p]? = some (.pointer (some a))) (hq : tmps[q]? = some v') (hv : (loadVar t a).run P w = .ok v w) : (results fn tmps).run P w = .ok (.tuple #[v, v']) w := by
  simp [results, h, hp, hq, asAddr, hv]

/-- The table alone has turned; the identifiers are as they were. -/
theorem STX.turnT (h : STX w0 base w S Q M n t f) {M' : List Msg} (he : M'.map Msg.uid = M.map Msg.uid) (ht : ∃ X : List MB, X.map MB.m = M' ∧ TBX base w' S.T X) (hf : Fr S.T.foot w w') : STX w0 base w' S Q M' n t f := by
  have hl : M'.length = M.length := by have := congrArg List.length he; simpa using this
  refine h.turn (u' := S.u) hf (fun k hk => .inl hk) ht (hf.blk h.ctr h.ac) (by rw [he]; exact h.idx.fr hf h.ax h.au) (.inl rfl) (by rw [hl]; exact h.len) (by rw [he]; exact h.asc) (fun m hm => ?_) h.n1 h.t1
  have h1 : m.uid ∈ M'.map Msg.uid := List.mem_map.2 ⟨m, hm, rfl⟩
  rw [he] at h1
  obtain ⟨m', hm', h2⟩ := List.mem_map.1 h1
  rw [← h2]
  exact h.below m' hm'
theorem STX.stpT (hf : Fr S.T.foot w w') : Stp w w' S Q S Q := ⟨fr_or hf fun _ hk => .inl hk, fun _ h => .inl h, rfl, rfl⟩

theorem findX_M {X : List MB} (k : Int) : (findM (X.map MB.m) k).isSome = (findX X k).isSome ∧ (findM (X.map MB.m) k).getD msg0 = ((findX X k).getD mb0).m := by
  rw [findX_map]
  cases findX X k <;> exact ⟨rfl, rfl⟩

set_option maxRecDepth 100000 in
set_option maxHeartbeats 3200000 in
theorem sget_x (h : STX w0 base w S Q M n t f) {X : List MB} (hXm : X.map MB.m = M) (hX0 : TBX base w S.T X) (k : Int) (hk0 : 0 ≤ k) (hk1 : k ≤ 4294967295) :
    Calls Tryz.prog 21 #[.pointer (some ⟨S.s, 0, none⟩), .int .u32 k] w fun e w' => ∃ y : MB, e = .returned (.tuple #[y.val, .bool (findM M k).isSome]) ∧ y.m = (findM M k).getD msg0 ∧ Own (intE .u8) 5 w.heap.size w' y.bv y.m.body ∧ STX w0 base w' S Q M n t f ∧ Stp w w' S Q S Q ∧ TBX base w' S.T X := by
  have hna : New w (w.alloc (.cells #[.int .u32 0, .int .u8 0, .slice none 0 0] 55)) := (New.refl w).alloc _
  have h1 := h.more hna
  have hX := hX0.new hna
  have e0 : w.cell? ⟨S.s, 0, none⟩ = some (.pointer (some ⟨S.T.tb, 0, none⟩)) := h.hd.cell 0
  have hsl := h.hd.lt
  have htg := tget_any hX k hk0 hk1
  have hfx := findX_M (X := X) k
  rw [hXm] at hfx
  rw [← hfx.1, ← hfx.2] at htg
  obtain ⟨q, hq⟩ : ∃ q, (findM M k).isSome = q := ⟨_, rfl⟩
  obtain ⟨fm, hfm⟩ : ∃ fm, (findM M k).getD msg0 = fm := ⟨_, rfl⟩
  rw [hq, hfm] at htg ⊢
  have hb0 : Blk (w.alloc (.cells #[.int .u32 0, .int .u8 0, .slice none 0 0] 55)) w.heap.size 55 #[.int .u32 0, .int .u8 0, .slice none 0 0] := Blk.new _ _ _
  have hhi := h.hi
  have hbb := h.hb
  have HTG := Lib.hid htg
  have H1 := Lib.hid h1
  have H := Lib.hid h
  have HX := Lib.hid hXm
  clear htg h1 h hX hX0 hXm hfx hq hfm
  go_enter Tryz.func21, Tryz.ntmps21
  go_wp2_with fail
  refine HTG.out.mono ?_
  rintro e w2 ⟨⟨⟨yu, yf, yb⟩, yA, yn, yc⟩, rfl, hym, hyo, hT2, hf2⟩
  simp only [MB.val, MB.bv] at hyo ⊢
  have hs2 := H1.out.turnT rfl ⟨X, HX.out, hT2⟩ hf2
  have hb2 := hf2.blk hb0 (fun hk => by have := hk.2; omega)
  have p0 := hb2.cell 0
  have p1 := hb2.cell 1
  have p2 := hb2.cell 2
  have z0 := hb2.frozen 0
  have z1 := hb2.frozen 1
  have z2 := hb2.frozen 2
  have HS2 := Lib.hid hs2
  have HT2 := Lib.hid hT2
  have HF2 := Lib.hid hf2
  have HYO := Lib.hid hyo
  have HYM := Lib.hid hym
  clear hs2 hf2 hyo hym hT2
  go_wp2
  have hF : Fr (fun k => k = w.heap.size) w2 (((w2.setCell ⟨w.heap.size, 0, none⟩ (.int .u32 yu)).setCell ⟨w.heap.size, 1, none⟩ (.int .u8 yf)).setCell ⟨w.heap.size, 2, none⟩ (.slice yA yn yc)) :=
    (((Fr.refl (fun k => k = w.heap.size) w2).setCell (p := ⟨w.heap.size, 0, none⟩) (fun _ => rfl) _).setCell (p := ⟨w.heap.size, 1, none⟩) (fun _ => rfl) _).setCell (p := ⟨w.heap.size, 2, none⟩) (fun _ => rfl) _
  have b3 : Blk (((w2.setCell ⟨w.heap.size, 0, none⟩ (.int .u32 yu)).setCell ⟨w.heap.size, 1, none⟩ (.int .u8 yf)).setCell ⟨w.heap.size, 2, none⟩ (.slice yA yn yc)) w.heap.size 55 #[.int .u32 yu, .int .u8 yf, .slice yA yn yc] := ((hb2.set_ 0 _).set_ 1 _).set_ 2 _
  refine bodyPost_ret (results_cell_tmp rfl _ _ rfl rfl (loadMsg b3)) rfl ?_
  refine ⟨⟨⟨yu, yf, yb⟩, yA, yn, yc⟩, rfl, HYM.out, (HYO.out.fr hF fun b hb hs => ?_).mono (by simp), HS2.out.keep hF (fun k hk e => ?_) (fun v l hv b hb e => ?_) (fun k e => by subst e; exact H.out.new.size), ⟨?_, fun _ h => .inl h, rfl, rfl⟩, HT2.out.fr hF (fun k e hft => ?_) (fun v l hv b hb e => ?_)⟩
  · have := (HYO.out.block hb).1
    simp at this
    omega
  · have := H.out.foot_lt hk
    omega
  · obtain ⟨cs, h9⟩ := hv.heap hb
    subst e
    exact h9.ne_ hb2 (by decide) rfl
  · exact Fr.trans' (Fr.trans (New.to hna) (fr_or HF2.out fun k hk => Or.inl hk)) hF fun k hk e => by omega
  · subst e
    have := hft.2
    omega
  · obtain ⟨cs, h9⟩ := hv.heap hb
    subst e
    exact h9.ne_ hb2 (by decide) rfl

theorem sget_any (h : STX w0 base w S Q M n t f) (k : Int) (hk0 : 0 ≤ k) (hk1 : k ≤ 4294967295) :
    Calls Tryz.prog 21 #[.pointer (some ⟨S.s, 0, none⟩), .int .u32 k] w fun e w' => ∃ y : MB, e = .returned (.tuple #[y.val, .bool (findM M k).isSome]) ∧ y.m = (findM M k).getD msg0 ∧ Own (intE .u8) 5 w.heap.size w' y.bv y.m.body ∧ STX w0 base w' S Q M n t f ∧ Stp w w' S Q S Q := by
  obtain ⟨X, hXm, hX⟩ := h.tbl
  exact (sget_x h hXm hX k hk0 hk1).mono fun e w' ⟨y, h1, h2, h3, h4, h5, _⟩ => ⟨y, h1, h2, h3, h4, h5⟩

theorem STX.rebase (h : STX w0 base w S Q [] n t f) : STX w0 w.heap.size w S Q [] n t f := by
  obtain ⟨X, hXm, hX⟩ := h.tbl
  obtain rfl : X = [] := by cases X; rfl; simp at hXm
  exact { h with tbl := ⟨[], rfl, hX.rebase⟩, hi := Nat.le_trans h.hi h.hb, hb := Nat.le_refl _ }

/-- Nothing of the mailbox has turned: its bodies told one by one. -/
theorem STX.keep2 {R : Nat → Prop} (h : STX w0 base w S Q M n t f) {X : List MB} (hXm : X.map MB.m = M) (hX : TBX base w S.T X) (hf : Fr R w w') (hR : ∀ k, S.foot Q k → ¬ R k) (hB : ∀ x ∈ X, ∀ b, x.bv.ownBlock = some b → ¬ R b) (hR0 : ∀ k, R k → w0.heap.size ≤ k) : STX w0 base w' S Q M n t f ∧ TBX base w' S.T X := by
  have hX' := hX.fr2 hf (fun k hk hT => hR k (.inl hT) hk) hB
  refine ⟨{ h with
    hd := hf.blk h.hd (hR _ (.inr (.inl rfl)))
    tbl := ⟨X, hXm, hX'⟩
    ctr := hf.blk h.ctr (hR _ (.inr (.inr (.inl rfl))))
    idx := h.idx.fr hf (hR _ (.inr (.inr (.inr (.inl rfl))))) fun b hb => hR _ (.inr (.inr (.inr (.inr (.inl hb)))))
    qx := h.qx.fr hf (hR _ (.inr (.inr (.inr (.inr (.inr (.inl rfl))))))) fun k hk => hR k (.inr (.inr (.inr (.inr (.inr (.inr hk))))))
    hb := Nat.le_trans h.hb hf.size
    new := New.two h.new hf hR0 }, hX'⟩
end

end Go.Proofs.YtdbbchifkjhfcaaGreat
end

section
/- An ascending list: what is struck at the place that find hands back. -/
namespace Go.Proofs.YtdbbchifkjhfcaaGreat
open Go.RowKit

theorem Asc.filter {s : List Int} (h : Asc s) (p : Int → Bool) : Asc (s.filter p) := List.Pairwise.filter p h

theorem eraseIdx_filter {s : List Int} (h : Asc s) {k : Nat} {u : Int} (hk : s[k]? = some u) : s.eraseIdx k = s.filter fun y => y != u := by
  induction s generalizing k with
  | nil => simp at hk
  | cons x s ih =>
    cases k with
    | zero =>
      obtain rfl : x = u := by simpa using hk
      rw [List.eraseIdx_cons_zero, List.filter_cons]
      simp only [bne_self_eq_false, Bool.false_eq_true, if_false]
      exact (List.filter_eq_self.2 fun y hy => by have := h.head hy; simp; omega).symm
    | succ k =>
      have hk' : s[k]? = some u := by simpa using hk
      have := h.head (List.mem_of_getElem? hk')
      rw [List.eraseIdx_cons_succ, ih h.tail hk', List.filter_cons]
      have hxu : (x != u) = true := by simp; omega
      rw [if_pos hxu]

theorem rmOf_eq {s : List Int} (h : Asc s) {uid : Int} {k : Nat} (hk : FindAt s uid k) : rmOf s uid k = s.filter fun y => y != uid := by
  unfold rmOf
  split
  · rename_i h1
    exact eraseIdx_filter h h1
  · rename_i h1
    refine (List.filter_eq_self.2 fun y hy => ?_).symm
    have : y ≠ uid := by
      rintro rfl
      exact h1 ((hk.mem h).1 hy)
    simpa using this

end Go.Proofs.YtdbbchifkjhfcaaGreat
end

section
/- A mailbox: Change, drop. -/
namespace Go.Proofs.YtdbbchifkjhfcaaGreat
open Go.RowKit Go.Maps

section
variable {w0 w w' w'' : World} {base : Nat} {S S' S'' : Sx} {Q Q' Q'' : Qs} {M : List Msg} {n t f : Int}

theorem told_gr {p : Int → Bool} {ev : Ev} {v' : Int → Value} (hst : ∀ i ∈ Q.ids, Stays w (Q.v i) (v' i)) : ∀ k, S.foot (Q.told p ev v') k → S.foot Q k ∨ w.heap.size ≤ k := by
  rintro k (hk | hk | hk | hk | hk | hk | ⟨i, hi, hk⟩)
  · exact .inl (.inl hk)
  · exact .inl (.inr (.inl hk))
  · exact .inl (.inr (.inr (.inl hk)))
  · exact .inl (.inr (.inr (.inr (.inl hk))))
  · exact .inl (.inr (.inr (.inr (.inr (.inl hk)))))
  · exact .inl (.inr (.inr (.inr (.inr (.inr (.inl hk))))))
  · have hi : i ∈ Q.ids := hi
    rcases hk with hk | hk
    · exact .inl (.inr (.inr (.inr (.inr (.inr (.inr ⟨i, hi, .inl hk⟩))))))
    · have hk : (v' i).ownBlock = some k := hk
      rcases hst i hi with h1 | ⟨b, h1, h2⟩
      · exact .inl (.inr (.inr (.inr (.inr (.inr (.inr ⟨i, hi, .inr (h1 ▸ hk)⟩))))))
      · rw [h1] at hk
        cases hk
        exact .inr h2
theorem told_stp {p : Int → Bool} {ev : Ev} {v' : Int → Value} (hf : Fr Q.foot w w') (hst : ∀ i ∈ Q.ids, Stays w (Q.v i) (v' i)) : Stp w w' S Q S (Q.told p ev v') :=
  ⟨fr_or hf fun _ hk => .inr (.inr (.inr (.inr (.inr (.inr hk))))), told_gr hst, rfl, rfl⟩

theorem flM_uid (M : List Msg) (k mode fl : Int) : (flM M k mode fl).map Msg.uid = M.map Msg.uid := by
  unfold flM
  split
  · exact setF_uid _ _ _
  · rfl

/-- What Change tells. -/
def chEv (M : List Msg) (by_ k mode fl : Int) (i : Int) : List Ev :=
  if flC M k mode fl = 0 ∧ flX M k mode fl ≠ ((findM M k).getD msg0).fl ∧ i ≠ by_ then [⟨3, k, flX M k mode fl⟩] else []

theorem flX_ok {M : List Msg} {k mode fl : Int} (h0 : 0 ≤ fl) : 0 ≤ flX M k mode fl ∧ flX M k mode fl ≤ 31 := by
  unfold flX
  split
  · omega
  · rename_i m hm
    cases hc : chg m.fl mode fl with
    | none => simp
    | some z => exact chg_ok hc h0

theorem getD_fl (h : STX w0 base w S Q M n t f) (k : Int) : 0 ≤ ((findM M k).getD msg0).fl ∧ ((findM M k).getD msg0).fl ≤ 31 := by
  cases hf : findM M k with
  | none => simp [msg0]
  | some m => exact (h.ok m (findM_mem hf).1).1.2

set_option maxRecDepth 100000 in
set_option maxHeartbeats 3200000 in
/-- Change: the flags of a message, and its event to each subscriber but the one. -/
theorem schange_any (h : STX w0 base w S Q M n t f) (hQ : ∀ i ∈ Q.ids, (Q.l i).length ≤ 90000) (by_ k mode fl : Int) (hk0 : 0 ≤ k) (hk1 : k ≤ 4294967295) (hf : 0 ≤ fl ∧ fl ≤ 255) (hm : (Lit.int .i64 mode).wf = true) :
    Calls Tryz.prog 10 #[.pointer (some ⟨S.s, 0, none⟩), .int .i64 by_, .int .u32 k, .int .i64 mode, .int .u8 fl] w fun e w' => e = .returned (.tuple #[.int .u8 (flX M k mode fl), .int .i64 (flC M k mode fl)]) ∧
      ∃ Q', STX w0 base w' S Q' (flM M k mode fl) n t f ∧ Stp w w' S Q S Q' ∧ Q'.ids = Q.ids ∧ ∀ i, Q'.l i = Q.l i ++ chEv M by_ k mode fl i := by
  have hmf : ∀ (fn : Fn) (first cap : Array Value) (w : World), (Instr.makeFunc fn first cap).run Tryz.prog w = .ok (.func fn first cap) w := fun _ _ _ _ => rfl
  have hE := Lib.hid (enters _ _ _ Tryz.func38 (by kernel_rfl) rfl)
  have hbx : Blk (w.alloc (.cells #[.int .i64 by_] 3)) w.heap.size 3 #[.int .i64 by_] := Blk.new _ _ _
  have hna : New w (w.alloc (.cells #[.int .i64 by_] 3)) := (New.refl w).alloc _
  have h1 := h.more hna
  have hwb := h.hb
  have hwh := h.hi
  have hold := getD_fl h k
  have hxo := flX_ok (M := M) (k := k) (mode := mode) hf.1
  have hmu := flM_uid M k mode fl
  obtain ⟨fx, hfx⟩ : ∃ fx, flX M k mode fl = fx := ⟨_, rfl⟩
  obtain ⟨fc, hfc⟩ : ∃ fc, flC M k mode fl = fc := ⟨_, rfl⟩
  obtain ⟨fM, hfM⟩ : ∃ fM, flM M k mode fl = fM := ⟨_, rfl⟩
  obtain ⟨om, hom⟩ : ∃ om, (findM M k).getD msg0 = om := ⟨_, rfl⟩
  have hml := h.mlen
  have HCE : Hid (∀ i, chEv M by_ k mode fl i = if fc = 0 ∧ fx ≠ om.fl ∧ i ≠ by_ then [⟨3, k, fx⟩] else []) := Lib.hid (fun i => by unfold chEv; rw [hfx, hfc, hom])
  have HTF := Lib.hid (fun (wz : World) (X : List MB) (hXm : X.map MB.m = M) (hX : TBX base wz S.T X) => by
    have h2 := tflags_any hX (by rw [← hXm, List.length_map] at hml; omega) k mode fl hk0 hk1 hf hm
    rw [hXm, hfx, hfc, hfM] at h2
    exact h2)
  have HSG := Lib.hid (fun (wz : World) (hz : STX w0 base wz S Q M n t f) => by
    have h2 := sget_any hz k hk0 hk1
    rw [hom] at h2
    exact h2)
  rw [hfx, hfc, hfM]
  rw [hom] at hold
  rw [hfx] at hxo
  rw [hfM] at hmu
  have HMU := Lib.hid hmu
  have H1 := Lib.hid h1
  have HQ := Lib.hid hQ
  clear h h1 hfx hfc hfM hom hmu hQ
  go_enter Tryz.func10, Tryz.ntmps10
  go_wp2_with fail
  refine (HSG.out _ H1.out).mono ?_
  rintro e w2 ⟨⟨⟨yu, yf, yb⟩, yA, yn, yc⟩, rfl, hym, hyo, hS2, hp2⟩
  simp only [MB.val]
  have hs2 := hp2.fr.size
  simp only [World.size_alloc] at hs2
  have hbx2 := hp2.fr.blk hbx (fun hk => by have := H1.out.foot_lt hk; exact H1.out.not_foot hbx (by omega) (by decide) (by decide) (by decide) (by decide) (by decide) (by decide) hk)
  have hyf : yf = om.fl := congrArg Msg.fl hym
  have hn3 : New w2 (w2.alloc (.cells #[.int .u32 yu, .int .u8 yf, .slice yA yn yc] 55)) := (New.refl w2).alloc _
  have hS3 := hS2.more hn3
  obtain ⟨X, hXm, hX⟩ := hS3.tbl
  have e0 : w2.cell? ⟨S.s, 0, none⟩ = some (.pointer (some ⟨S.T.tb, 0, none⟩)) := hS2.hd.cell 0
  have hsl2 := hS2.hd.lt
  have bm3 : Blk (w2.alloc (.cells #[.int .u32 yu, .int .u8 yf, .slice yA yn yc] 55)) w2.heap.size 55 #[.int .u32 yu, .int .u8 yf, .slice yA yn yc] := Blk.new _ _ _
  have HT := Lib.hid (HTF.out _ X hXm hX)
  have HS3 := Lib.hid hS3
  have HX3 := Lib.hid hXm
  have HN3 := Lib.hid hn3
  have HP2 := Lib.hid hp2
  have hbx3 := hn3.blk hbx2
  have hwb2 := hS2.hb
  clear hym hyo hS2 hp2 hbx2 hn3 hS3 hXm hX
  subst hyf
  go_wp2_with fail
  refine HT.out.mono ?_
  rintro e w4 ⟨rfl, X', hX', hXl', hT4, hf4⟩
  have hS4 := HS3.out.turnT HMU.out ⟨X', hX', hT4⟩ hf4
  have hsz4 := hf4.size
  simp only [World.size_alloc] at hsz4
  have bm4 := hf4.blk bm3 (fun hk => by have := hk.2; omega)
  have hbx4 := hf4.blk hbx3 (fun hk => by have := hk.2; omega)
  have q1 : w4.cell? ⟨w2.heap.size, 1, none⟩ = some (.int .u8 om.fl) := bm4.cell 1
  have HP4 := Lib.hid ((((Stp.new hna).trans HP2.out).trans (Stp.new HN3.out)).trans (STX.stpT (S := S) (Q := Q) hf4))
  have HS4 := Lib.hid hS4
  have HBX4 := Lib.hid hbx4
  clear hX' hXl' hT4 hf4 hS4 bm3 bm4 hbx3 hbx4
  by_cases hc : fc = 0
  · by_cases hd : fx = om.fl
    · have hcb : (fc == 0) = true := by simp [hc]
      have hdb : (fx != om.fl) = false := by simp [hd]
      have hce : ∀ i, chEv M by_ k mode fl i = [] := fun i => by rw [HCE.out, if_neg (fun h => h.2.1 hd)]
      have HCE2 := Lib.hid hce
      clear hc hd hce HCE
      go_wp2
      go_ret2
      exact ⟨rfl, Q, HS4.out, HP4.out, rfl, fun i => by rw [HCE2.out, List.append_nil]⟩
    · have hcb : (fc == 0) = true := by simp [hc]
      have hdb : (fx != om.fl) = true := by simp [hd]
      have hce : ∀ i, chEv M by_ k mode fl i = if i ≠ by_ then [⟨3, k, fx⟩] else [] := fun i => by
        rw [HCE.out]
        by_cases hi : i ≠ by_
        · rw [if_pos ⟨hc, hd, hi⟩, if_pos hi]
        · rw [if_neg (fun h => hi h.2.2), if_neg hi]
      have HCE2 := Lib.hid hce
      clear hc hd hce HCE
      have hwf : (⟨3, k, fx⟩ : Ev).wf := ⟨(by decide : (Lit.int .i64 3).wf = true), okU hk0 hk1, (by
        show (Lit.int .u8 fx).wf = true
        have h2 : IntKind.u8.min ≤ fx := by rw [show IntKind.u8.min = 0 from rfl]; exact hxo.1
        have h3 : fx ≤ IntKind.u8.max := by rw [show IntKind.u8.max = 255 from rfl]; omega
        simp [Lit.wf, h2, h3])⟩
      have hte := tell_any HS4.out.hd HS4.out.qx HQ.out ⟨3, k, fx⟩ hwf (by simp) 38 #[.pointer (some ⟨w.heap.size, 0, none⟩)] (fun i => i != by_) hE.out (fun W i hF => change1_any i by_ w.heap.size W (hF.blk HBX4.out (HS4.out.qx.ne HBX4.out (by decide) (by decide)) |>.cell 0))
      simp only [Ev.val] at hte
      have HTE := Lib.hid hte
      clear hte hwf
      go_wp2_with fail
      refine HTE.out.mono ?_
      rintro e w5 ⟨rfl, v', hq5, hf5, hv5⟩
      have HS5 := Lib.hid (HS4.out.told hq5 hf5 hv5)
      have HP5 := Lib.hid (HP4.out.trans (told_stp (p := fun i => i != by_) (ev := ⟨3, k, fx⟩) hf5 hv5))
      clear hq5 hf5 hv5
      go_wp2
      go_ret2
      refine ⟨rfl, _, HS5.out, HP5.out, rfl, fun i => ?_⟩
      rw [HCE2.out]
      show toldL (fun i => i != by_) ⟨3, k, fx⟩ Q i = _
      unfold toldL
      by_cases hi : i = by_
      · simp [hi]
      · simp [hi]
  · have hcb : (fc == 0) = false := by simp [hc]
    have hce : ∀ i, chEv M by_ k mode fl i = [] := fun i => by rw [HCE.out, if_neg (fun h => hc h.1)]
    have HCE2 := Lib.hid hce
    clear hc hce HCE
    go_wp2
    go_ret2
    exact ⟨rfl, Q, HS4.out, HP4.out, rfl, fun i => by rw [HCE2.out, List.append_nil]⟩

theorem remM_uid (M : List Msg) (k : Int) : (remM M k).map Msg.uid = (M.map Msg.uid).filter fun y => y != k := by
  unfold remM
  rw [List.filter_map]
  congr 1
  refine List.filter_congr fun m _ => ?_
  simp only [Function.comp, bne]
  cases hq : (m.uid == k)
  · simpa using hq
  · simpa using hq

set_option maxRecDepth 100000 in
set_option maxHeartbeats 1600000 in
/-- drop: a message is removed. -/
theorem sdrop_any (h : STX w0 base w S Q M n t f) (k : Int) (hk0 : 0 ≤ k) (hk1 : k ≤ 4294967295) :
    Calls Tryz.prog 41 #[.pointer (some ⟨S.s, 0, none⟩), .int .u32 k] w fun e w' => e = .returned (.tuple #[]) ∧ ∃ u', STX w0 base w' { S with u := u' } Q (remM M k) n t f ∧ Stp w w' S Q { S with u := u' } Q := by
  have e0 : w.cell? ⟨S.s, 0, none⟩ = some (.pointer (some ⟨S.T.tb, 0, none⟩)) := h.hd.cell 0
  obtain ⟨X, hXm, hX⟩ := h.tbl
  have hml := h.mlen
  have HRM := Lib.hid (tremove_any hX h.hi k hk0 hk1)
  have H := Lib.hid h
  have HX := Lib.hid hXm
  obtain ⟨mb, hmb⟩ : ∃ mb, (findX X k).getD mb0 = mb := ⟨_, rfl⟩
  rw [hmb] at HRM
  obtain ⟨⟨mu, mf, mbd⟩, mA, mn, mc⟩ := mb
  simp only [MB.val, MB.bv] at HRM
  clear h hX hXm hmb
  go_enter Tryz.func41, Tryz.ntmps41
  go_wp2_with fail
  refine HRM.out.mono ?_
  rintro e w2 ⟨rfl, _, hT2, hf2⟩
  have hd2 := hf2.blk H.out.hd H.out.as_
  have e2 : w2.cell? ⟨S.s, 2, none⟩ = some (.pointer (some ⟨S.x, 0, none⟩)) := hd2.cell 2
  have hi2 := H.out.idx.fr hf2 H.out.ax H.out.au
  have hs2 := hf2.size
  have HIR := Lib.hid (irm_any hi2 (by rw [List.length_map]; omega) k)
  have HT2 := Lib.hid hT2
  have HF2 := Lib.hid hf2
  have HI2 := Lib.hid hi2
  clear hd2 hi2 hT2 hf2
  go_wp2_with fail
  refine HIR.out.mono ?_
  rintro e w3 ⟨j, u', rfl, hj, hi3, hf3, hst⟩
  rw [rmOf_eq H.out.asc hj] at hi3
  have HI3 := Lib.hid hi3
  have HF3 := Lib.hid hf3
  have HST := Lib.hid (Stays.mono hst hs2)
  clear hi3 hf3 hst hj
  go_wp2
  go_end0
  have hF : Fr S.mfoot w w3 := Fr.trans (fr_or HF2.out fun k hk => .inl hk) (fr_or HF3.out fun k hk => by rcases hk with hk | hk; exact .inr (.inr (.inl hk)); exact .inr (.inr (.inr hk)))
  refine ⟨rfl, u', H.out.turn hF (fun k hk => hk) ⟨remX X k, by rw [remX_map, HX.out], HT2.out.fr HF3.out (fun k hk => ?_) fun v l hv b hb hk => ?_⟩ ?_ (by rw [remM_uid]; exact HI3.out) HST.out ?_ ?_ ?_ H.out.n1 H.out.t1, fr_or hF fun k hk => Sx.mfoot_foot hk, fun k hk => Sx.foot_upd hk HST.out, rfl, rfl⟩
  · rcases hk with hk | hk
    · subst hk; exact H.out.ax
    · exact H.out.au k hk
  · obtain ⟨cs, h9⟩ := hv.heap hb
    rcases hk with hk | hk
    · exact h9.ne_ HI2.out.1 (by decide) hk
    · obtain ⟨cs', h10⟩ := HI2.out.2.1.heap hk
      exact h9.ne_ h10 (by decide) rfl
  · exact HF3.out.blk (HF2.out.blk H.out.ctr H.out.ac) fun hk => by
      rcases hk with hk | hk
      · exact H.out.c_ne.1 hk
      · exact H.out.c_ne.2.1 _ hk rfl
  · have h1 : (remM M k).length ≤ M.length := List.length_filter_le _ _
    have h2 := H.out.len
    omega
  · rw [remM_uid]; exact H.out.asc.filter _
  · intro m hm
    exact H.out.below m (List.mem_filter.1 hm).1
end

end Go.Proofs.YtdbbchifkjhfcaaGreat
end

