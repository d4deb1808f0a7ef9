/- An index: Remove. -/
import Derived.Test.YtmhhmenhfocfjaaIdxApp
import Derived.Test.YtmhhmenhfocfjaaPos
import Derived.Laws.IdiomCopy
namespace Go.Proofs.Ytmhhmenhfocfjaa
open Go.RowKit

theorem Fr.setCells {S : Nat → Prop} {a w : World} (b : Nat) (hb : b < a.heap.size → S b) : ∀ (vs : List Value) (o : Nat), Fr S a w → Fr S a (w.setCells b o vs)
  | [], _, h => h
  | v :: vs, o, h => by
    have h1 : Fr S a (w.setCell ⟨b, o, none⟩ v) := Fr.setCell h (p := ⟨b, o, none⟩) hb v
    exact Fr.setCells b hb vs (o + 1) h1

section
variable {P : Program} {base : Nat} {w : World} {l : List Int} {te : TypeId}
/-- copy(v[k:], v[k+1:]): what stands at place k is struck. -/
theorem run_close_urow (t ty : TypeId) (hu : P.underlying t = some (.slice te)) (hs : (P.info? te).map (·.size) = some 1) {g off c : Nat} (h : URow base w (.slice (some ⟨g, off, none⟩) l.length c) l) (k : Nat) (hk : k < l.length) (A : Option Addr) (hA : k + 1 < l.length → A = some ⟨g, off + (k + 1), none⟩) (cc : Nat) :
    ∃ w', (Builtin.copy_ #[t, t] ty #[.slice (some ⟨g, off + k, none⟩) (l.length - k) (c - k), .slice A (l.length - (k + 1)) cc]).run P w = .ok (.int .i64 (l.length - (k + 1) : Nat)) w' ∧
      URow base w' (.slice (some ⟨g, off, none⟩) (l.length - 1) c) (l.eraseIdx k) ∧ Fr (fun b => b = g) w w' := by
  have hrow := h
  rcases h with ⟨h, _⟩ | ⟨g', off', c', he, hb, hgl, hlc, hcm, hcells, hj⟩
  · cases h
  cases he
  have hel : (l.eraseIdx k).length = l.length - 1 := List.length_eraseIdx_of_lt hk
  by_cases hlast : k + 1 = l.length
  · have hrun := run_copy_none (P := P) w t t ty te (some ⟨g, off + k, none⟩) A (l.length - k) (c - k) (l.length - (k + 1)) cc hu hs (by rw [show l.length - (k + 1) = 0 by omega]; simp)
    refine ⟨w, ?_, ?_, Fr.refl _ _⟩
    · rw [hrun, show l.length - (k + 1) = 0 by omega]; rfl
    · refine .inr ⟨g, off, c, by rw [hel], hb, hgl, by omega, hcm, fun i x hx => hcells i x ?_, hj⟩
      rw [List.getElem?_eraseIdx] at hx
      split at hx
      · exact hx
      · have := (List.getElem?_eq_some_iff.1 hx).1; omega
  · obtain rfl := hA (by omega)
    have hcl : ((l.drop (k + 1)).map (Value.int .u32)).length = l.length - (k + 1) := by simp
    have hsrc : ∀ j v, ((l.drop (k + 1)).map (Value.int .u32))[j]? = some v → w.cell? ((⟨g, off + (k + 1), none⟩ : Addr).add j) = some v := by
      intro j v hv
      rw [List.getElem?_map, List.getElem?_drop] at hv
      obtain ⟨x, hx, rfl⟩ := Option.map_eq_some_iff.1 hv
      rw [Addr.add_lit, Nat.add_assoc]
      exact hcells _ x hx
    have hcs : ∀ j, j < ((l.drop (k + 1)).map (Value.int .u32)).length → (w.cell? ⟨g, off + k + j, none⟩).isSome = true := by
      intro j hj'
      obtain ⟨z, hz⟩ := (hj (k + j) (by omega)).1
      rw [Nat.add_assoc, hz]
      rfl
    have hfz : ∀ j, j < ((l.drop (k + 1)).map (Value.int .u32)).length → w.frozen? ⟨g, off + k + j, none⟩ = false := by
      intro j hj'
      rw [Nat.add_assoc]
      exact (hj (k + j) (by omega)).2
    have hrun := run_copy_cells (P := P) w t t ty te g (off + k) (l.length - k) (c - k) ⟨g, off + (k + 1), none⟩ (l.length - (k + 1)) cc _ hu hs (by rw [hcl]; exact (Nat.min_eq_left (by omega)).symm) hsrc hcs hfz (by
      intro v hv
      obtain ⟨x, _, rfl⟩ := List.mem_map.1 hv
      rfl)
    refine ⟨_, by rw [hrun, hcl]; rfl, ?_, Fr.setCells (S := fun b => b = g) g (fun _ => rfl) _ _ (Fr.refl _ w)⟩
    have hfr : Fr (fun b => b = g) w (w.setCells g (off + k) ((l.drop (k + 1)).map (Value.int .u32))) := Fr.setCells (S := fun b => b = g) g (fun _ => rfl) _ _ (Fr.refl _ w)
    have hsz := hfr.size
    refine .inr ⟨g, off, c, by rw [hel], hb, by omega, by omega, hcm, fun i x hx => ?_, fun j hjc => ⟨?_, ?_⟩⟩
    · rw [List.getElem?_eraseIdx] at hx
      split at hx
      · rw [World.cell?_setCells_out g _ _ _ _ (fun _ _ => Or.inl (by show off + i < off + k; omega))]
        exact hcells i x hx
      · have hil : i + 1 < l.length := (List.getElem?_eq_some_iff.1 hx).1
        have := World.cell?_setCells_in g ((l.drop (k + 1)).map (Value.int .u32)) (off + k) w hcs (i - k) (by rw [hcl]; omega)
        rw [show off + k + (i - k) = off + i by omega] at this
        rw [this]
        have h2 : (l.drop (k + 1))[i - k]? = some x := by rw [List.getElem?_drop, show k + 1 + (i - k) = i + 1 by omega]; exact hx
        have h3 : ((l.drop (k + 1)).map (Value.int .u32))[i - k]? = some (.int .u32 x) := by rw [List.getElem?_map, h2]; rfl
        rw [List.getElem?_eq_some_iff] at h3
        exact congrArg some h3.2
    · by_cases hin : k ≤ j ∧ j < l.length - 1
      · have := World.cell?_setCells_in g ((l.drop (k + 1)).map (Value.int .u32)) (off + k) w hcs (j - k) (by rw [hcl]; omega)
        rw [show off + k + (j - k) = off + j by omega] at this
        exact ⟨_, this⟩
      · obtain ⟨z, hz⟩ := (hj j hjc).1
        refine ⟨z, ?_⟩
        rw [World.cell?_setCells_out g _ _ _ _ (fun _ _ => ?_)]
        · exact hz
        · rw [hcl]
          by_cases hkj : j < k
          · exact Or.inl (by show off + j < off + k; omega)
          · exact Or.inr (by show off + k + (l.length - (k + 1)) ≤ off + j; omega)
    · rw [World.frozen?_setCells]
      exact (hj j hjc).2

variable {ops : Array Oper} {o : Oper} {a : Act} {K : Act → World → Prop} {Q : Exit → Act → World → Prop}
theorem step_close_urow {F : Prop} (hgd : o.guard = none) (s x : Operand) (t : TypeId) (ho : o.op = .call { callee := .builtin .copy, args := #[s, x], argTypes := #[t, t] })
    (hu : P.underlying t = some (.slice te)) (hs : (P.info? te).map (·.size) = some 1) {g off c : Nat} (h : URow base w (.slice (some ⟨g, off, none⟩) l.length c) l) (k : Nat) (hk : k < l.length) (A : Option Addr) (hA : k + 1 < l.length → A = some ⟨g, off + (k + 1), none⟩) (cc : Nat)
    (n2 m : Nat) (h2 : l.length - (k + 1) = n2) (h3 : l.length - 1 = m)
    (hd : a.eval s = .slice (some ⟨g, off + k, none⟩) (l.length - k) (c - k)) (hx : a.eval x = .slice A (l.length - (k + 1)) cc)
    (hK : ∀ w', URow base w' (.slice (some ⟨g, off, none⟩) m c) (l.eraseIdx k) → Fr (fun b => b = g) w w' → K (a.put o.dst (.int .i64 n2)) w') :
    if Region.wanted o (yielded ops a.tmps) = true then Oper.wp P o a w K Q else F := by
  subst h2 h3
  have hw : Region.wanted o (yielded ops a.tmps) = true := by simp [Region.wanted, hgd]
  rw [if_pos hw]
  obtain ⟨w', hr, h1, h2⟩ := run_close_urow (P := P) t o.type hu hs h k hk A hA cc
  unfold Oper.wp execOp
  simp only [ho, resolve, invoke, builtin, Sem.run_bind, Sem.run_pure, Result.andThen_ok, List.map_toArray, List.map_cons, List.map_nil, hd, hx, hr]
  exact hK w' h1 h2
end

set_option maxHeartbeats 400000 in
theorem irm_nil (u : Int) (w : World) : Calls Try.prog 11 #[.pointer none, .int .u32 u] w fun e w' => e = .returned (.int .i64 0) ∧ New w w' := by
  go_enter Try.func11, Try.ntmps11
  go_wp2_with fail
  refine (pos_nil u w).mono ?_
  rintro e w1 ⟨rfl, rfl⟩
  go_wp2
  go_ret
  exact ⟨rfl, New.refl _⟩

/-- What Remove leaves, where find has handed back k. -/
def rmOf (l : List Int) (uid : Int) (k : Nat) : List Int := if l[k]? = some uid then l.eraseIdx k else l

theorem size1 : (Try.prog.info? 28).map (·.size) = some 1 := by kernel_rfl

set_option maxRecDepth 100000 in
set_option maxHeartbeats 3200000 in
theorem irm_any {base x : Nat} {w : World} {u : Value} {l : List Int} (h : IdxU base w x u l) (hl : l.length ≤ 100000) (uid : Int) :
    Calls Try.prog 11 #[.pointer (some ⟨x, 0, none⟩), .int .u32 uid] w fun e w' => ∃ (k : Nat) (u' : Value), e = .returned (.int .i64 (posAt l uid k)) ∧ FindAt l uid k ∧ IdxU base w' x u' (rmOf l uid k) ∧ IFr x u w w' ∧ Stays w u u' := by
  have HF := Lib.hid (pos_any h.at_ hl uid)
  have H := Lib.hid h
  obtain ⟨A, c, rfl, hlc⟩ := h.2.1.form
  have c0 : w.cell? ⟨x, 0, none⟩ = some (.slice A l.length c) := h.1.cell 0
  have f0 : w.frozen? ⟨x, 0, none⟩ = false := h.1.frozen 0
  clear h
  go_enter Try.func11, Try.ntmps11
  go_wp2_with fail
  refine HF.out.mono ?_
  rintro e w1 ⟨k, rfl, hk, hn1⟩
  have H1 := Lib.hid (H.out.new hn1)
  have HK := Lib.hid hk
  have hkl := hk.1
  clear hk
  by_cases hq : l[k]? = some uid
  · have hkl2 : k < l.length := (List.getElem?_eq_some_iff.1 hq).1
    have hpos : posAt l uid k = (k : Int) + 1 := if_pos hq
    have hrm : rmOf l uid k = l.eraseIdx k := if_pos hq
    have HP := Lib.hid hpos
    have HR := Lib.hid hrm
    rw [hpos]
    obtain ⟨g, off, rfl, -⟩ : ∃ g off, A = some ⟨g, off, none⟩ ∧ True := by
      obtain ⟨A', c', he, _, hcells⟩ := H1.out.2.1.rd
      cases he
      obtain ⟨b, off, rfl, _⟩ := hcells (by rintro rfl; simp at hkl2)
      exact ⟨b, off, rfl, trivial⟩
    have c1 : ∀ n, (w1.drewN n).cell? ⟨x, 0, none⟩ = some (.slice (some ⟨g, off, none⟩) l.length c) := fun n => H1.out.1.cell 0
    have c10 : w1.cell? ⟨x, 0, none⟩ = some (.slice (some ⟨g, off, none⟩) l.length c) := c1 0
    have hw1 : IntKind.i64.wrap ((k : Int) + 1 - 1) = k := by rw [IntWalk.i64_in _ (by omega)]; omega
    have hw2 : (k : Int) + 1 - 1 = k := by omega
    have hw3 : IntKind.i64.wrap (k : Int) = k := IntWalk.i64_in _ (by omega)
    have hck : c ≠ k := by omega
    have hp0 : decide ((0 : Int) < (k : Int) + 1) = true := decide_eq_true (by omega)
    have b1 : (0 : Int) ≤ (k : Int) := by omega
    have b2 : (k : Int) ≤ (l.length : Int) := by omega
    have b3 : (k : Int) ≤ (c : Int) := by omega
    have b4 : (0 : Int) ≤ (k : Int) + 1 := by omega
    have b5 : (k : Int) + 1 ≤ (l.length : Int) := by omega
    have b6 : (k : Int) + 1 ≤ (c : Int) := by omega
    have b7 : ((k : Int) + 1).toNat = k + 1 := by omega
    clear hpos hrm hq
    go_wp2_with fail
    obtain ⟨n3, hn3⟩ : ∃ n3, l.length - (k + 1) = n3 := ⟨_, rfl⟩
    obtain ⟨m, hm⟩ : ∃ m, l.length - 1 = m := ⟨_, rfl⟩
    have hsum : IntKind.i64.wrap ((k : Int) + (n3 : Int)) = (m : Int) := by rw [IntWalk.i64_in _ (by omega)]; omega
    have hsum2 : (k : Int) + (n3 : Int) = (m : Int) := by omega
    have hmc : m ≤ c := by omega
    have hm0 : (0 : Int) ≤ (m : Int) := by omega
    have hmI : (m : Int) ≤ (c : Int) := by omega
    have hmw : IntKind.i64.wrap (m : Int) = (m : Int) := IntWalk.i64_in _ (by omega)
    have hxb := H1.out.1.lt
    have HN3 := Lib.hid hn3
    have HM := Lib.hid hm
    have HXG := Lib.hid (fun (e : x = g) => H1.out.2.2 (by rw [e]; rfl))
    clear hn3 hm
    go_region_held3 (fun w' => w'.cell? ⟨x, 0, none⟩ = some (.slice (some ⟨g, off, none⟩) l.length c)) (first | go_keep | assumption)
      ((first
        | (refine step_close_urow (by rfl) (.tmp 20) (.tmp 26) 22 (by rfl) Try.underlying22 size1 (g := g) (off := off) (c := c) (H1.out.2.1.new (New.refl _).drew) k hkl2 (if c = k + 1 then some ⟨g, off, none⟩ else some ⟨g, off + (k + 1), none⟩) (fun h => if_neg (by omega)) (c - (k + 1)) n3 m HN3.out HM.out (by rfl) (by rfl) ?_
           intro w2 hr2 hf2
           have b2 := Lib.hid (Fr.blk hf2 H1.out.1 HXG.out)
           have c2 : w2.cell? ⟨x, 0, none⟩ = some (.slice (some ⟨g, off, none⟩) l.length c) := b2.out.cell 0
           have f2 : w2.frozen? ⟨x, 0, none⟩ = false := b2.out.frozen 0)
        | fail))
    all_goals go_wp2
    all_goals go_ret
    all_goals (
      refine ⟨k, by rw [HP.out]; rfl, HK.out, ?_⟩
      first
        | (have hce : c = k + 1 := by assumption
           subst hce
           refine ⟨.slice (some ⟨g, off, none⟩) m (k + 1), ?_, ?_, .inl rfl⟩)
        | (refine ⟨.slice (some ⟨g, off, none⟩) m c, ?_, ?_, .inl rfl⟩)
      · rw [HR.out]
        refine ⟨?_, ?_, H1.out.2.2⟩
        · exact b2.out.set_ 0 _
        · exact hr2.fr (Fr.setCell (S := fun k => k = x) (p := ⟨x, 0, none⟩) (Fr.refl _ w2) (fun _ => rfl) _) fun b hb e => H1.out.2.2 (e ▸ hb)
      · have h1 : IFr x (.slice (some ⟨g, off, none⟩) l.length 0) w w2 := Fr.trans' (New.to hn1.drew) hf2 fun i _ h => .inr (by rw [h]; rfl)
        exact Fr.setCell h1 (fun _ => .inl rfl) _)
  · have hpos : posAt l uid k = 0 := if_neg hq
    have hrm : rmOf l uid k = l := if_neg hq
    have HP := Lib.hid hpos
    have HR := Lib.hid hrm
    rw [hpos]
    clear hpos hrm hq
    go_wp2
    go_ret
    exact ⟨k, _, by rw [HP.out]; rfl, HK.out, by rw [HR.out]; exact H1.out, New.to hn1, .inl rfl⟩

end Go.Proofs.Ytmhhmenhfocfjaa
