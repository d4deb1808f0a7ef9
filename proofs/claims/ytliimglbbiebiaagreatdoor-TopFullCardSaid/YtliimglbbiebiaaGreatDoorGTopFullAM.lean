/- A part of the proof: IdxApp, Ev, SqueezeP, Split, Squeeze, SqueezeW, EvEq. -/
import Derived.Test.YtliimglbbiebiaaGreatDoorGTopFullAK
import Derived.Test.YtliimglbbiebiaaGreatDoorGTopFullAL
import Derived.Deep.RegionHeld3
import Derived.Deep.AppendSrc
import Derived.Test.YtliimglbbiebiaaGreatDoorRows
import Derived.Test.YtliimglbbiebiaaGreatDoorGTopFullAA
import Derived.WalkKit
import Derived.WalkSpells
import Derived.WalkLawsBesides
import Derived.Deep.QuietTactic
import Derived.BigQuiet
import Derived.Test.YtliimglbbiebiaaGreatDoorGTopFullAB
import Derived.Shelf.Abstract
import Derived.DeepKeys4
import Derived.KernelRfl
import Derived.ProofKit
import Derived.Lib.SmallJoins
import Derived.MapViews
import Derived.Maps.OwnOps
import Derived.Deep.DeepMust
import Derived.Laws.StructEq

section
/- An index: Append. -/
namespace Go.Proofs.YtliimglbbiebiaaGreatDoor
open Go.RowKit

section
variable {P : Program} {base : Nat} {w : World} {v : Value} {l : List Int}

/-- append(v, y) where v is a row told by its cells. -/
theorem run_push_urow (t ty : TypeId) {i : TypeInfo} {bytes : Nat} (ht : P.underlying t = some (.slice 28)) (hi : P.info? 28 = some i) (hz : i.zero = some (.int .u32 0)) (hsize : i.size = 1) (hby : i.bytes = bytes) (hby2 : bytes ≤ 8)
    (h : URow base w v l) (y : Int) (g : Nat) (hg : Blk w g 28 #[.int .u32 y]) (c : Nat) (hl : l.length ≤ 1000000) (hbase : base ≤ w.heap.size) :
    ∃ v' w', (Builtin.append_ #[t, t] ty #[v, .slice (some ⟨g, 0, none⟩) 1 c]).run P w = .ok v' w' ∧ URow base w' v' (l ++ [y]) ∧ Fr (fun k => v.ownBlock = some k) w w' ∧ (∃ A n c, v' = .slice A n c) ∧ (v'.ownBlock = v.ownBlock ∨ v'.ownBlock = some w.heap.size) := by
  have hsrc : Src P i.size t (.slice (some ⟨g, 0, none⟩) 1 c) 1 [.int .u32 y] w := by
    refine Src.ofSlice w ht ⟨g, 0, none⟩ 1 c _ (by simp [hsize]) (fun j u hu => ?_) (by simp [Value.oneCell'])
    rw [Addr.add_lit, hg.cell]
    simpa using hu
  have grow : ∀ (A : Option Addr) (cp : Nat), v = .slice A l.length cp → cp < l.length + 1 → (Builtin.firstCells i.size l.length v).run P w.drew = .ok (l.map (Value.int .u32)).toArray w.drew →
      ∃ v' w', (Builtin.append_ #[t, t] ty #[v, .slice (some ⟨g, 0, none⟩) 1 c]).run P w = .ok v' w' ∧ URow base w' v' (l ++ [y]) ∧ Fr (fun k => v.ownBlock = some k) w w' ∧ (∃ A n c, v' = .slice A n c) ∧ (v'.ownBlock = v.ownBlock ∨ v'.ownBlock = some w.heap.size) := by
    rintro A cp rfl hcp hold
    have hge := grownCap_ge w (l.length + 1) cp 28
    have hle := grownCap_le_maxLen w (l.length + 1) cp 28 (by unfold maxLen; omega)
    have hrun := run_append_grow_src (P := P) w t t ty 28 i (.int .u32 0) ht hi hz A l.length cp _ hold _ 1 _ hsrc hcp (by omega) (growslice_fits hcp (by
      have h1 : (l.length + 1) * i.bytes ≤ 1000001 * 8 := Nat.mul_le_mul (by omega) (by omega)
      omega))
    have hcn : ∀ j, (w.drew.alloc (.cells ((l.map (Value.int .u32) ++ [Value.int .u32 y]).toArray ++ Builtin.zeroCells (Value.int .u32 0).cells (grownCap w (l.length + 1) cp 28 - (l.length + 1))) 28)).cell? ⟨w.heap.size, j, none⟩ = ((l.map (Value.int .u32) ++ [Value.int .u32 y]).toArray ++ Builtin.zeroCells (Value.int .u32 0).cells (grownCap w (l.length + 1) cp 28 - (l.length + 1)))[j]? := fun j => World.cell?_alloc_new w.drew _ _ j
    refine ⟨_, _, hrun, ?_, ((Fr.refl _ w).drew).alloc _, ⟨_, _, _, rfl⟩, .inr rfl⟩
    refine .inr ⟨w.heap.size, 0, _, by rw [List.length_append]; rfl, hbase, ⟨_, Blk.new w.drew _ _⟩, by rw [List.length_append]; exact hge, hle, fun j x hx => ?_, fun j hj => ⟨?_, ?_⟩⟩
    · rw [Nat.zero_add, hcn]
      rw [Array.getElem?_append_left (by
        have := (List.getElem?_eq_some_iff.1 hx).1
        simp only [List.length_append, List.length_singleton] at this
        simp
        omega), List.getElem?_toArray]
      have e1 : l.map (Value.int .u32) ++ [Value.int .u32 y] = (l ++ [y]).map (Value.int .u32) := by simp
      rw [e1, List.getElem?_map, hx]
      rfl
    · rw [Nat.zero_add, hcn]
      refine ⟨_, Array.getElem?_eq_getElem ?_⟩
      rw [Array.size_append, size_zeroCells]
      simp [Value.cells]
      omega
    · exact World.frozen?_alloc_new w.drew _ _ _
  rcases h with ⟨rfl, rfl⟩ | ⟨gb, off, cp, rfl, hb, hgl, hlc, hcm, hcells, hj⟩
  · exact grow none 0 rfl (by simp) (run_firstCells_none _ _ _ _ _)
  · by_cases hroom : l.length + 1 ≤ cp
    · obtain ⟨⟨z, hz⟩, hf⟩ := hj l.length (by omega)
      have hrun := run_append_room_src (P := P) w t t ty 28 i ht hi gb off l.length cp _ 1 _ hsrc hroom
        (fun j hj' => by
          obtain rfl : j = 0 := by simpa using hj'
          rw [hsize, Nat.mul_one, Nat.add_zero, hz]; rfl)
        (fun j hj' => by
          obtain rfl : j = 0 := by simpa using hj'
          rw [hsize, Nat.mul_one, Nat.add_zero, hf])
      rw [hsize, Nat.mul_one] at hrun
      refine ⟨_, _, hrun, ?_, ?_, ⟨_, _, _, rfl⟩, .inl rfl⟩
      · refine .inr ⟨gb, off, cp, by rw [List.length_append]; rfl, hb, by obtain ⟨cs, hgl⟩ := hgl; exact ⟨_, hgl.set_ _ _⟩, by rw [List.length_append]; exact hroom, hcm, fun j x hx => ?_, fun j hjc => ⟨?_, ?_⟩⟩
        · simp only [World.setCells]
          by_cases hjl : j = l.length
          · subst hjl
            have hxy : x = y := by simpa using hx.symm
            subst hxy
            exact World.cell?_setCell_same _ _ _ (by rw [hz] <;> rfl)
          · rw [World.cell?_setCell_other _ _ _ _ (by simp <;> omega)]
            have hjl2 : j < l.length := by have := (List.getElem?_eq_some_iff.1 hx).1; simp at this; omega
            rw [List.getElem?_append_left hjl2] at hx
            exact hcells j x hx
        · simp only [World.setCells]
          obtain ⟨⟨z', hz'⟩, _⟩ := hj j hjc
          by_cases hjl : j = l.length
          · subst hjl
            exact ⟨_, World.cell?_setCell_same _ _ _ (by rw [hz] <;> rfl)⟩
          · rw [World.cell?_setCell_other _ _ _ _ (by simp <;> omega)]
            exact ⟨z', hz'⟩
        · simp only [World.setCells, World.frozen?_setCell]
          exact (hj j hjc).2
      · simp only [World.setCells]
        exact Fr.setCell (S := fun k => Value.ownBlock (.slice (some ⟨gb, off, none⟩) l.length cp) = some k) (p := ⟨gb, off + l.length, none⟩) (Fr.refl _ w) (fun _ => rfl) _
    · refine grow (some ⟨gb, off, none⟩) cp rfl (by omega) ?_
      refine run_firstCells_some (P := P) w.drew i.size l.length ⟨gb, off, none⟩ l.length cp _ (by simp [hsize]) fun j u hu => ?_
      rw [List.getElem?_map] at hu
      obtain ⟨x, hx, rfl⟩ := Option.map_eq_some_iff.1 hu
      rw [Addr.add_lit]
      exact hcells j x hx

variable {ops : Array Oper} {rest : List Oper} {o : Oper} {a : Act} {Q : Exit → Act → World → Prop}
theorem wpList_push_urow (hgd : o.guard = none) (s x : Operand) (t : TypeId) (ho : o.op = .call { callee := .builtin .append, args := #[s, x], argTypes := #[t, t] })
    {i : TypeInfo} {bytes : Nat} (ht : P.underlying t = some (.slice 28)) (hi : P.info? 28 = some i) (hz : i.zero = some (.int .u32 0)) (hsize : i.size = 1) (hby : i.bytes = bytes) (hby2 : bytes ≤ 8)
    (h : URow base w v l) (hs : a.eval s = v) (y : Int) (g : Nat) (hg : Blk w g 28 #[.int .u32 y]) (c : Nat) (hx : a.eval x = .slice (some ⟨g, 0, none⟩) 1 c) (hl : l.length ≤ 1000000) (hbase : base ≤ w.heap.size)
    (hK : ∀ A n c w', URow base w' (.slice A n c) (l ++ [y]) → Fr (fun k => v.ownBlock = some k) w w' → Hid (Value.ownBlock (.slice A n c) = v.ownBlock ∨ Value.ownBlock (.slice A n c) = some w.heap.size) → wpList P ops Q rest (a.put o.dst (.slice A n c)) w') :
    wpList P ops Q (o :: rest) a w := by
  obtain ⟨v', w', hr, h1, h2, ⟨A, n, c, rfl⟩, h3⟩ := run_push_urow (P := P) t o.type ht hi hz hsize hby hby2 h y g hg c hl hbase
  refine wpList_plain hgd fun K' hK' => ?_
  unfold Oper.wp execOp
  simp only [ho, resolve, invoke, builtin, Sem.run_bind, Sem.run_pure, Result.andThen_ok, List.map_toArray, List.map_cons, List.map_nil, hs, hx, hr]
  exact hK' _ _ (hK A n c w' h1 h2 h3)
end

theorem findAt_ex (l : List Int) (u : Int) : ∃ k, FindAt l u k := by
  suffices h : ∀ n k, l.length - k = n → k ≤ l.length → (k = 0 ∨ ∃ y, l[k - 1]? = some y ∧ ¬ u ≤ y) → ∃ k, FindAt l u k from h _ 0 rfl (Nat.zero_le _) (.inl rfl)
  intro n
  induction n with
  | zero =>
    intro k hk hkl h1
    exact ⟨k, hkl, h1, .inl (by omega)⟩
  | succ n ih =>
    intro k hk hkl h1
    have h2 : k < l.length := by omega
    obtain ⟨y, hy⟩ : ∃ y, l[k]? = some y := ⟨_, List.getElem?_eq_getElem h2⟩
    have h3 : l.length - (k + 1) = n := by clear h1; omega
    by_cases hu : u ≤ y
    · exact ⟨k, hkl, h1, .inr ⟨y, hy, hu⟩⟩
    · exact ih (k + 1) h3 h2 (.inr ⟨y, by simpa using hy, hu⟩)

/-- What Append leaves, where find has handed back k. -/
def appOf (l : List Int) (uid : Int) (k : Nat) : List Int × Bool := if uid = 0 ∨ k < l.length then (l, false) else (l ++ [uid], true)

/-- Block x is an index whose slice is u, which reads as l. -/
def IdxU (base : Nat) (w : World) (x : Nat) (u : Value) (l : List Int) : Prop := Blk w x 163 #[u] ∧ URow base w u l ∧ u.ownBlock ≠ some x
theorem IdxU.fr {base x : Nat} {w w' : World} {u : Value} {l : List Int} {S : Nat → Prop} (h : IdxU base w x u l) (hf : Fr S w w') (h1 : ¬ S x) (h2 : ∀ b, u.ownBlock = some b → ¬ S b) : IdxU base w' x u l :=
  ⟨Fr.blk hf h.1 h1, h.2.1.fr hf h2, h.2.2⟩
theorem IdxU.new {base x : Nat} {w w' : World} {u : Value} {l : List Int} (h : IdxU base w x u l) (hf : New w w') : IdxU base w' x u l := h.fr hf id fun _ _ => id
theorem IdxU.at_ {base x : Nat} {w : World} {u : Value} {l : List Int} (h : IdxU base w x u l) : IdxAt base w x l := ⟨u, h.1, h.2.1⟩
/-- Behind Append, Remove: the index's own block and its row alone have turned. -/
abbrev IFr (x : Nat) (u : Value) (w w' : World) : Prop := Fr (fun k => k = x ∨ u.ownBlock = some k) w w'
/-- The row is the one that it was, or a new one. -/
def Stays (w : World) (u u' : Value) : Prop := u'.ownBlock = u.ownBlock ∨ ∃ b, u'.ownBlock = some b ∧ w.heap.size ≤ b

set_option maxHeartbeats 400000 in
theorem iapp_nil (u : Int) (w : World) : Calls Tryz.prog 189 #[.pointer none, .int .u32 u] w fun e w' => e = .returned (.bool false) ∧ New w w' := by
  go_enter Tryz.func189, Tryz.ntmps189
  go_wp2_with fail
  go_quiet (fail)
  go_wp2
  go_ret
  exact ⟨rfl, (New.refl w).drewN _⟩

set_option maxRecDepth 100000 in
set_option maxHeartbeats 3200000 in
theorem iapp_any {base x : Nat} {w : World} {u : Value} {l : List Int} (h : IdxU base w x u l) (hbase : base ≤ w.heap.size) (hl : l.length ≤ 100000) (uid : Int) :
    Calls Tryz.prog 189 #[.pointer (some ⟨x, 0, none⟩), .int .u32 uid] w fun e w' => ∃ (k : Nat) (u' : Value), e = .returned (.bool (appOf l uid k).2) ∧ FindAt l uid k ∧ IdxU base w' x u' (appOf l uid k).1 ∧ IFr x u w w' ∧ Stays w u u' := by
  obtain ⟨i0, hi, hz0, hz1, hz2⟩ := info_parts u32_info
  have HF := Lib.hid (fun n => find_any (h.at_.new ((New.refl w).drewN n)) hl uid)
  have H := Lib.hid h
  obtain ⟨A, c, rfl, hlc⟩ := h.2.1.form
  have c0 : w.cell? ⟨x, 0, none⟩ = some (.slice A l.length c) := h.1.cell 0
  have f0 : w.frozen? ⟨x, 0, none⟩ = false := h.1.frozen 0
  clear h
  cases hu0 : (uid == 0)
  · go_enter Tryz.func189, Tryz.ntmps189
    go_wp2_with fail
    go_region_held3 (fun w' => w'.cell? ⟨x, 0, none⟩ = some (.slice A l.length c)) (first | go_keep | assumption)
      ((first
        | (go_at_call 241
           refine (HF.out _).mono ?_
           rintro e w1 ⟨k, rfl, hk, hn1⟩
           have hn2 : New w w1 := ((New.refl w).drewN _).trans hn1
           have c1 : w1.cell? ⟨x, 0, none⟩ = some (.slice A l.length c) := Fr.cell hn2 c0 id
           have HK := Lib.hid hk
           have hkl := hk.1
           clear hk)
        | fail))
    have hU0 := Lib.hid (show uid ≠ 0 by simpa using hu0)
    by_cases hlt : k < l.length
    · have hd : decide (k < l.length) = true := decide_eq_true hlt
      have happ : appOf l uid k = (l, false) := if_pos (.inr hlt)
      have HAPP := Lib.hid happ
      clear happ
      rw [hd]
      go_wp2
      go_ret
      refine ⟨k, _, by rw [HAPP.out]; rfl, HK.out, ?_, hn2.to, .inl rfl⟩
      rw [HAPP.out]
      exact H.out.new hn2
    · have hd : decide (k < l.length) = false := decide_eq_false hlt
      have happ : appOf l uid k = (l ++ [uid], true) := if_neg (by
        rintro (h1 | h1)
        · exact hU0.out h1
        · exact hlt h1)
      have HAPP := Lib.hid happ
      have f1 : w1.frozen? ⟨x, 0, none⟩ = false := (New.blk hn2 H.out.1).frozen 0
      have hrow := Lib.hid (H.out.2.1.new (hn2.alloc (.cells #[.int .u32 uid] 28)))
      have hblk := Lib.hid (New.blk (hn2.alloc (.cells #[.int .u32 uid] 28)) H.out.1)
      have hsz := hn2.size
      have hxl := H.out.1.lt
      have HX := Lib.hid (fun (e : Value.ownBlock (.slice A l.length c) = some x) => H.out.2.2 e)
      clear happ
      rw [hd]
      go_wp2_with (at_builtin; refine wpList_push_urow rfl _ _ _ rfl Tryz.underlying58 hi hz0 hz1 hz2 (by omega) hrow.out rfl uid w1.heap.size (Blk.new _ _ _) 1 rfl (by omega) (by simp; omega) ?_; intro A2 n2 c2 w2 hr2 hf2 hs2; have b2 := Lib.hid (Fr.blk hf2 hblk.out HX.out); have c2x : w2.cell? ⟨x, 0, none⟩ = some (.slice A l.length c) := b2.out.cell 0; have f2x : w2.frozen? ⟨x, 0, none⟩ = false := b2.out.frozen 0)
      go_ret
      have hxn : Value.ownBlock (.slice A2 n2 c2) ≠ some x := fun e => by
        rcases hs2.out with h | h
        · exact HX.out (h ▸ e)
        · rw [h] at e; injection e with e; simp at e; omega
      refine ⟨k, .slice A2 n2 c2, by rw [HAPP.out]; rfl, HK.out, ?_, ?_, ?_⟩
      · rw [HAPP.out]
        refine ⟨?_, ?_, hxn⟩
        · exact b2.out.set_ 0 _
        · exact hr2.fr (Fr.setCell (S := fun k => k = x) (p := ⟨x, 0, none⟩) (Fr.refl _ w2) (fun _ => rfl) _) fun b hb e => hxn (e ▸ hb)
      · have h1 : IFr x (.slice A l.length c) w w2 := Fr.trans' (New.to (hn2.alloc _)) hf2 fun i _ h => .inr h
        exact Fr.setCell h1 (fun _ => .inl rfl) _
      · rcases hs2.out with h | h
        · exact .inl h
        · exact .inr ⟨_, h, by simp; omega⟩
  · have HU := Lib.hid (show uid = 0 by simpa using hu0)
    have hk0 : ∃ k, FindAt l uid k := findAt_ex l uid
    go_enter Tryz.func189, Tryz.ntmps189
    go_wp2_with fail
    go_quiet (fail)
    go_wp2
    go_ret
    obtain ⟨k, hk⟩ := hk0
    have happ : appOf l uid k = (l, false) := if_pos (.inl HU.out)
    exact ⟨k, _, by rw [happ]; rfl, hk, by rw [happ]; exact H.out.new ((New.refl w).drewN _), New.to ((New.refl w).drewN _), .inl rfl⟩

end Go.Proofs.YtliimglbbiebiaaGreatDoor
end

section
/- Events as elements; the names of kinds. -/
namespace Go.Proofs.YtliimglbbiebiaaGreatDoor
open Go.RowKit

/-- An event: its kind, its identifier, its flags. -/
structure Ev where
  k : Int
  u : Int
  f : Int
  deriving DecidableEq

def Ev.val (e : Ev) : Value := .agg #[.int .i64 e.k, .int .u32 e.u, .int .u8 e.f]
def evE : Elem Ev where
  enc e := [.int .i64 e.k, .int .u32 e.u, .int .u8 e.f]
  sz := 3
  len _ := rfl
  one x u hu := by simp at hu; rcases hu with rfl | rfl | rfl <;> rfl
  pos := by omega

/-- Each number fits its kind. -/
def Ev.wf (e : Ev) : Prop := (Lit.int .i64 e.k).wf = true ∧ (Lit.int .u32 e.u).wf = true ∧ (Lit.int .u8 e.f).wf = true

theorem ev_info : (Tryz.prog.info? 232).map (fun i => (i.zero, i.size, i.bytes)) = some (some (.agg #[.int .i64 0, .int .u32 0, .int .u8 0]), 3, 16) := by kernel_rfl

/-- The name of a kind. -/
def nameOf (k : Int) : ByteArray := if k = 1 then "arrived".toUTF8 else if k = 2 then "gone".toUTF8 else if k = 3 then "changed".toUTF8 else ⟨#[]⟩

set_option maxHeartbeats 400000 in
theorem name_any (k : Int) (w : World) : Calls Tryz.prog 299 #[.int .i64 k] w fun e w' => e = .returned (.string (nameOf k)) ∧ w = w' := by
  by_cases h1 : k = 1
  · subst h1
    go_enter Tryz.func299, Tryz.ntmps299
    go_wp2
    go_ret
    exact ⟨rfl, rfl⟩
  · by_cases h2 : k = 2
    · subst h2
      go_enter Tryz.func299, Tryz.ntmps299
      go_wp2
      go_ret
      exact ⟨rfl, rfl⟩
    · by_cases h3 : k = 3
      · subst h3
        go_enter Tryz.func299, Tryz.ntmps299
        go_wp2
        go_ret
        exact ⟨rfl, rfl⟩
      · have hn : nameOf k = ⟨#[]⟩ := by simp [nameOf, h1, h2, h3]
        rw [hn]
        clear hn
        have b1 : (k == 1) = false := by simp [h1]
        have b2 : (k == 2) = false := by simp [h2]
        have b3 : (k == 3) = false := by simp [h3]
        go_enter Tryz.func299, Tryz.ntmps299
        go_wp2
        go_ret
        exact ⟨rfl, rfl⟩

theorem nameOf_empty (k : Int) : (nameOf k).toList.isEmpty = !decide (1 ≤ k ∧ k ≤ 3) := by
  by_cases h1 : k = 1
  · subst h1; decide +kernel
  · by_cases h2 : k = 2
    · subst h2; decide +kernel
    · by_cases h3 : k = 3
      · subst h3; decide +kernel
      · have hd : ¬ (1 ≤ k ∧ k ≤ 3) := by omega
        simp only [nameOf, h1, h2, h3, hd, if_false, decide_false, Bool.not_false]
        decide +kernel

set_option maxHeartbeats 400000 in
theorem known_any (v : Ev) (w : World) : Calls Tryz.prog 242 #[v.val] w fun e w' => e = .returned (.bool (decide (1 ≤ v.k ∧ v.k ≤ 3))) ∧ New w w' := by
  have hn := nameOf_empty v.k
  obtain ⟨k, u, f⟩ := v
  unfold Ev.val
  simp only at hn ⊢
  generalize decide (1 ≤ k ∧ k ≤ 3) = b at hn ⊢
  have HN := Lib.hid hn
  clear hn
  go_enter Tryz.func242, Tryz.ntmps242
  go_wp2_with (go_at_call 299; refine (name_any k _).mono ?_; generalize nameOf k = s at HN ⊢; rintro e w' ⟨rfl, rfl⟩)
  go_ret
  refine ⟨?_, (New.refl _).alloc _⟩
  show Ending.returned (.bool (!s.toList.isEmpty)) = _
  rw [HN.out, Bool.not_not]

end Go.Proofs.YtliimglbbiebiaaGreatDoor
end

section
/- Squeezing, as a plain function on lists, and what it comes to step by step. No program. -/
namespace Go.Proofs.YtliimglbbiebiaaGreatDoor

/-- Is there a later change of the same message? -/
def later (e : Ev) (l : List Ev) : Bool := decide (e.k = 3) && l.any fun x => decide (x.k = 3) && decide (x.u = e.u)

def squeeze : List Ev → List Ev
  | [] => []
  | e :: l => if later e l then squeeze l else e :: squeeze l

theorem drop_cons {α : Type} {l : List α} {k : Nat} {x : α} (h : l[k]? = some x) : l.drop k = x :: l.drop (k + 1) := by
  obtain ⟨hk, rfl⟩ := List.getElem?_eq_some_iff.1 h
  exact List.drop_eq_getElem_cons hk

theorem squeeze_drop {l : List Ev} {k : Nat} {x : Ev} (h : l[k]? = some x) : squeeze (l.drop k) = if later x (l.drop (k + 1)) then squeeze (l.drop (k + 1)) else x :: squeeze (l.drop (k + 1)) := by
  rw [drop_cons h, squeeze]

theorem later_iff {l : List Ev} {k : Nat} {x : Ev} : later x (l.drop k) = true ↔ x.k = 3 ∧ ∃ i y, k ≤ i ∧ l[i]? = some y ∧ y.k = 3 ∧ y.u = x.u := by
  unfold later
  simp only [Bool.and_eq_true, decide_eq_true_eq, List.any_eq_true]
  constructor
  · rintro ⟨h1, y, hy, h2, h3⟩
    obtain ⟨i, hi⟩ := List.mem_iff_getElem?.1 hy
    rw [List.getElem?_drop] at hi
    exact ⟨h1, k + i, y, by omega, hi, h2, h3⟩
  · rintro ⟨h1, i, y, hi, hy, h2, h3⟩
    refine ⟨h1, y, List.mem_iff_getElem?.2 ⟨i - k, ?_⟩, h2, h3⟩
    rw [List.getElem?_drop, show k + (i - k) = i by omega]
    exact hy

theorem squeeze_length (l : List Ev) : (squeeze l).length ≤ l.length := by
  induction l with
  | nil => simp [squeeze]
  | cons e l ih =>
    rw [squeeze]
    split
    · simp; omega
    · simp; exact ih

theorem squeeze_mem {l : List Ev} {x : Ev} (h : x ∈ squeeze l) : x ∈ l := by
  induction l with
  | nil => simp [squeeze] at h
  | cons e l ih =>
    rw [squeeze] at h
    split at h
    · exact List.mem_cons_of_mem _ (ih h)
    · rcases List.mem_cons.1 h with rfl | h
      · simp
      · exact List.mem_cons_of_mem _ (ih h)

end Go.Proofs.YtliimglbbiebiaaGreatDoor
end

section
/- split divides a list of events into those that a function accepts and the others, both in new memory. -/
namespace Go.Proofs.YtliimglbbiebiaaGreatDoor
open Go.RowKit

/-- Function g, over what it has captured, is the predicate p, in every world in which all that lay in w lies unturned. -/
def IsPred (w : World) (g : Nat) (lb : Array Value) (p : Ev → Bool) : Prop :=
  ∀ (W : World) (x : Ev), New w W → Calls Tryz.prog g (#[x.val] ++ lb) W fun e w' => e = .returned (.bool (p x)) ∧ New W w'

set_option maxHeartbeats 1600000 in
theorem split_any (g : Nat) (lb : Array Value) (p : Ev → Bool) (hE : ∀ args w, (callFunc g args).run Tryz.prog w = .ok (.enter g args) w) (v : Value) (l : List Ev) (w : World) (hp : IsPred w g lb p) (hv : Rd evE w v l) (hl : l.length ≤ 100000) :
    Calls Tryz.prog 227 #[v, .func (.func g) #[] lb] w fun e w' => ∃ y n, e = .returned (.tuple #[y, n]) ∧ Own evE 232 w.heap.size w' y (l.filter p) ∧ Own evE 232 w.heap.size w' n (l.filter fun x => !p x) ∧ New w w' := by
  obtain ⟨A, c, rfl, hc, hcells⟩ := hv
  have HC := Lib.hid hcells
  clear hcells
  obtain ⟨i0, hi, hz0, hz1, hz2⟩ := info_parts ev_info
  go_enter Tryz.func227, Tryz.ntmps227
  go_wp2
  go_loopw [4, 5, 10] (fun vy vn vi wr => ∃ k : Nat, k ≤ l.length ∧ vi = .int .i64 k ∧ Own evE 232 w.heap.size wr vy ((l.take k).filter p) ∧ Own evE 232 w.heap.size wr vn ((l.take k).filter fun x => !p x) ∧
      (vy.ownBlock = none ∨ vy.ownBlock ≠ vn.ownBlock) ∧ New w wr) (fun _ _ vi _ => l.length - (intOf vi).toNat)
  case atStart => exact ⟨0, Nat.zero_le _, rfl, Own.nil _ _ _ _, Own.nil _ _ _ _, .inl rfl, New.refl _⟩
  case round =>
    obtain ⟨k, hk, rfl, hy, hn, hyn, hnew⟩ := hrel
    by_cases hkl : k < l.length
    · obtain ⟨x, hx⟩ : ∃ x, l[k]? = some x := ⟨_, List.getElem?_eq_getElem hkl⟩
      obtain ⟨b, off, rfl, hcell⟩ := HC.out (by rintro rfl; simp at hkl)
      obtain ⟨xk, xu, xf⟩ := x
      have c0 : wr.cell? ⟨b, off + k * 3, none⟩ = some (.int .i64 xk) := Fr.cell hnew (hcell k _ hx 0 _ rfl) id
      have c1 : wr.cell? ⟨b, off + k * 3 + 1, none⟩ = some (.int .u32 xu) := Fr.cell hnew (hcell k _ hx 1 _ rfl) id
      have c2 : wr.cell? ⟨b, off + k * 3 + 2, none⟩ = some (.int .u8 xf) := Fr.cell hnew (hcell k _ hx 2 _ rfl) id
      have HX := Lib.hid hx
      clear hcell hx
      have hcall := hp _ ⟨xk, xu, xf⟩ (hnew.alloc (.cells #[.int .i64 xk, .int .u32 xu, .int .u8 xf] 232))
      have hb0 : Blk (wr.alloc (.cells #[.int .i64 xk, .int .u32 xu, .int .u8 xf] 232)) wr.heap.size 232 #[.int .i64 xk, .int .u32 xu, .int .u8 xf] := Blk.new _ _ _
      have hsz := hnew.size
      have htl : (l.take k).length ≤ k := List.length_take_le _ _
      have hfy : ((l.take k).filter p).length ≤ k := Nat.le_trans (List.length_filter_le _ _) htl
      have hfn : ((l.take k).filter fun x => !p x).length ≤ k := Nat.le_trans (List.length_filter_le _ _) htl
      cases hpx : p ⟨xk, xu, xf⟩
      all_goals
        rw [hpx] at hcall
        have HP := Lib.hid hpx
        have HCALL := Lib.hid hcall
        clear hpx hcall
        go_wp2_with fail
        refine HCALL.out.mono ?_
        rintro e w1 ⟨rfl, hn1⟩
        have hs1 := hn1.size
        rw [World.size_alloc] at hs1
        have hb1 := hn1.blk hb0
        have d0 : w1.cell? ⟨wr.heap.size, 0, none⟩ = some (.int .i64 xk) := hb1.cell 0
        have d1 : w1.cell? ⟨wr.heap.size, 1, none⟩ = some (.int .u32 xu) := hb1.cell 1
        have d2 : w1.cell? ⟨wr.heap.size, 2, none⟩ = some (.int .u8 xf) := hb1.cell 2
        have hy1 := (hy.alloc (.cells #[.int .i64 xk, .int .u32 xu, .int .u8 xf] 232)).new hn1
        have hno1 := (hn.alloc (.cells #[.int .i64 xk, .int .u32 xu, .int .u8 xf] 232)).new hn1
        have hnew1 : New w w1 := (hnew.alloc _).trans hn1
        clear c0 c1 c2 hb0 hy hn hnew HCALL hn1 hb1
      · go_wp2_with (at_builtin; refine wpList_push (E := evE) rfl _ _ _ rfl Tryz.underlying223 hi hz0 hz1 hz2 rfl (hno1.alloc _) rfl ⟨xk, xu, xf⟩ w1.heap.size (Blk.new _ _ _) 1 rfl (by unfold maxLen; omega) (by omega) (by simp; omega) ?_; intro v2 w2 hv2 hf2 hl2)
        have hap := hy1.alloc (.cells #[.int .i64 xk, .int .u32 xu, .int .u8 xf] 232) |>.apart (hno1.alloc _) hyn hf2 hl2
        have hnew2 := New.append (hnew1.alloc _) (hno1.alloc _) hf2
        have et := take_snoc HX.out
        go_roundw
        case rel =>
          refine ⟨k + 1, by omega, by go_num, ?_, ?_, hap.2, hnew2⟩
          · rw [et, List.filter_append]
            simpa [HP.out] using hap.1
          · rw [et, List.filter_append]
            simpa [HP.out] using hv2
        case measure => simp [intOf]; omega
      · go_wp2_with (at_builtin; refine wpList_push (E := evE) rfl _ _ _ rfl Tryz.underlying223 hi hz0 hz1 hz2 rfl (hy1.alloc _) rfl ⟨xk, xu, xf⟩ w1.heap.size (Blk.new _ _ _) 1 rfl (by unfold maxLen; omega) (by omega) (by simp; omega) ?_; intro v2 w2 hv2 hf2 hl2)
        have hap := hno1.alloc (.cells #[.int .i64 xk, .int .u32 xu, .int .u8 xf] 232) |>.apart (hy1.alloc _) (apart_symm hyn) hf2 hl2
        have hnew2 := New.append (hnew1.alloc _) (hy1.alloc _) hf2
        have et := take_snoc HX.out
        go_roundw
        case rel =>
          refine ⟨k + 1, by omega, by go_num, ?_, ?_, apart_symm hap.2, hnew2⟩
          · rw [et, List.filter_append]
            simpa [HP.out] using hv2
          · rw [et, List.filter_append]
            simpa [HP.out] using hap.1
        case measure => simp [intOf]; omega
    · go_wp2
      go_ret2
      have e1 : l.take k = l := List.take_of_length_le (by omega)
      rw [e1] at hy hn
      exact ⟨_, _, rfl, hy, hn, hnew⟩

end Go.Proofs.YtliimglbbiebiaaGreatDoor
end

section
/- Squeeze computes squeezing: the map of last places, and the loop that keeps. -/
namespace Go.Proofs.YtliimglbbiebiaaGreatDoor
open Go.RowKit Go.Maps

theorem laidOutP : laidOutB Tryz.prog = true := by kernel_rfl
theorem keyRow : 398 < Tryz.prog.types.size := of_decide_eq_true (by kernel_rfl)
theorem keyCells : Tryz.prog.cellsOf 398 = 2 := by kernel_rfl
theorem cellsInt : Tryz.prog.cellsOf 3 = 1 := by kernel_rfl
theorem cellsU32 : Tryz.prog.cellsOf 28 = 1 := by kernel_rfl
theorem keyLaw : Keyed Tryz.prog 398 := Keyed.of_law (deep_law_laid laidOutP (m := 2) (by omega) keyRow (by kernel_rfl) (by kernel_rfl))
theorem keyT : Tryz.prog.keyType 398 = true := by kernel_rfl

theorem keyFormed (a b : Int) : Value.formed Tryz.prog 398 (.agg #[.int .i64 a, .int .u32 b]) = true := by
  simp [Value.formed, Tryz.underlying398, keyCells]
theorem keyWide : (match Tryz.prog.underlying 398 with | some (.array _ _) | some (.struct _) => true | _ => false) = true := by rw [Tryz.underlying398]

set_option maxRecDepth 100000 in
/-- The keys of the map: a kind and an identifier. -/
def evKeys : KeyEnc Tryz.prog 398 (Int × Int) where
  law := keyLaw
  kv := fun p => .agg #[.int .i64 p.1, .int .u32 p.2]
  kl := fun p => (DataW.agg [.lit (.int .i64 p.1), .lit (.int .u32 p.2)] : DataW Value).asKey
  ok := fun p => (Lit.int .i64 p.1).wf = true ∧ (Lit.int .u32 p.2).wf = true
  key := fun p h => (keyOf_asKey (H := Value) (enc := fun q => q.2) (w := default) (base := 0) (sp := fun _ => true) (held := true) keyT keyWide (keyFormed p.1 p.2)
    (Go.Joins.shut_agg2 (y0 := (.lit (.int .i64 p.1), [])) (y1 := (.lit (.int .u32 p.2), [])) Tryz.underlying398 (by kernel_rfl) keyCells ⟨1, by simp [DataW.trod, Tryz.underlying3, h.1]⟩ ⟨1, by simp [DataW.trod, Tryz.underlying28, h.2]⟩)).1
  inj := fun a b h => by
    injection h with h
    simp only [Array.mk.injEq, List.cons.injEq, Value.int.injEq, true_and, and_true] at h
    exact Prod.ext h.1 h.2

end Go.Proofs.YtliimglbbiebiaaGreatDoor
end

section
/- Squeeze returns the squeezed list in new memory. -/
namespace Go.Proofs.YtliimglbbiebiaaGreatDoor
open Go.RowKit Go.Maps

/-- Of the first k events each one's key stands in the map, at the last place of this key. -/
def LastOf (l : List Ev) (k : Nat) (M : List ((Int × Int) × Value)) : Prop :=
  ∀ i e, i < k → l[i]? = some e → ∃ j : Nat, get M (e.k, e.u) = some (.int .i64 j) ∧ i ≤ j ∧ j < k ∧ ∃ e', l[j]? = some e' ∧ e'.k = e.k ∧ e'.u = e.u

theorem LastOf.step {l : List Ev} {k : Nat} {M : List ((Int × Int) × Value)} (h : LastOf l k M) {x : Ev} (hx : l[k]? = some x) : LastOf l (k + 1) (put M (x.k, x.u) (.int .i64 (k : Nat))) := by
  intro i e hi he
  by_cases hk : (e.k, e.u) = (x.k, x.u)
  · rw [hk, get_put_same]
    injection hk with h1 h2
    exact ⟨k, rfl, by omega, by omega, x, hx, h1.symm, h2.symm⟩
  · have hik : i < k := by
      rcases Nat.lt_or_ge i k with h1 | h1
      · exact h1
      · obtain rfl : i = k := by omega
        rw [hx] at he
        injection he with he
        subst he
        exact absurd rfl hk
    rw [get_put_other M _ hk]
    obtain ⟨j, h1, h2, h3, h4⟩ := h i e hik he
    exact ⟨j, h1, h2, by omega, h4⟩

/-- At the end, the place in the map tells whether there is a later change. -/
theorem LastOf.tells {l : List Ev} {M : List ((Int × Int) × Value)} (h : LastOf l l.length M) {k : Nat} {x : Ev} (hx : l[k]? = some x) (h3 : x.k = 3) :
    ∃ j : Nat, get M (x.k, x.u) = some (.int .i64 j) ∧ j < l.length ∧ ((j = k) ↔ later x (l.drop (k + 1)) = false) := by
  obtain ⟨j, h1, h2, h4, y, hy, hyk, hyu⟩ := h k x (List.getElem?_eq_some_iff.1 hx).1 hx
  refine ⟨j, h1, h4, ?_⟩
  constructor
  · rintro rfl
    cases hl : later x (l.drop (j + 1)) with
    | false => rfl
    | true =>
      obtain ⟨_, i, z, hi, hz, hz3, hzu⟩ := later_iff.1 hl
      obtain ⟨j', h5, h6, _⟩ := h i z (List.getElem?_eq_some_iff.1 hz).1 hz
      rw [hz3, hzu, ← h3, h1] at h5
      injection h5 with h5
      injection h5 with _ h5
      omega
  · intro hl
    rcases Nat.lt_or_ge k j with hk | hk
    · have : later x (l.drop (k + 1)) = true := later_iff.2 ⟨h3, j, y, by omega, hy, by rw [hyk, h3], hyu⟩
      rw [hl] at this
      cases this
    · omega

theorem put_length {α : Type} [DecidableEq α] (M : List (α × Value)) (a : α) (v : Value) : (put M a v).length ≤ M.length + 1 := by
  unfold put del
  rw [List.length_cons]
  have := List.length_filter_le (fun p : α × Value => decide (p.1 ≠ a)) M
  omega

theorem zeroInt (w : World) : (zeroValue 3).run Tryz.prog w = .ok (.int .i64 0) w := by kernel_rfl

set_option maxHeartbeats 3200000 in
theorem squeeze_any (v : Value) (l : List Ev) (w : World) (hv : Rd evE w v l) (hwf : ∀ x ∈ l, x.wf) (hl : l.length ≤ 100000) :
    Calls Tryz.prog 229 #[v] w fun e w' => ∃ o, e = .returned o ∧ Own evE 232 w.heap.size w' o (squeeze l) ∧ New w w' := by
  obtain ⟨A, c, rfl, hc, hcells⟩ := hv
  have HC := Lib.hid hcells
  have HW := Lib.hid hwf
  clear hcells hwf
  have hmm := @run_makeMap Tryz.prog
  obtain ⟨i0, hi, hz0, hz1, hz2⟩ := info_parts ev_info
  go_enter Tryz.func229, Tryz.ntmps229
  go_wp2
  go_loopw [12] (fun vi wr => ∃ (k : Nat) (M : List ((Int × Int) × Value)), k ≤ l.length ∧ vi = .int .i64 k ∧ HasMap evKeys wr w.heap.size M ∧ M.length ≤ k ∧ LastOf l k M ∧ New w wr) (fun vi _ => l.length - (intOf vi).toNat)
  case atStart => exact ⟨0, [], Nat.zero_le _, rfl, HasMap.made _ _, Nat.le_refl _, fun i e hi => by omega, (New.refl _).alloc _⟩
  case round =>
    obtain ⟨k, M, hk, rfl, hM, hMl, hL, hnew⟩ := hrel
    have HL := Lib.hid hL
    clear hL
    by_cases hkl : k < l.length
    · obtain ⟨x, hx⟩ : ∃ x, l[k]? = some x := ⟨_, List.getElem?_eq_getElem hkl⟩
      obtain ⟨b, off, rfl, hcell⟩ := HC.out (by rintro rfl; simp at hkl)
      have hxw := HW.out x (List.mem_of_getElem? hx)
      have c0 : wr.cell? ⟨b, off + k * 3, none⟩ = some (.int .i64 x.k) := Fr.cell hnew (hcell k _ hx 0 _ rfl) id
      have c1 : wr.cell? ⟨b, off + k * 3 + 1, none⟩ = some (.int .u32 x.u) := Fr.cell hnew (hcell k _ hx 1 _ rfl) id
      have c2 : wr.cell? ⟨b, off + k * 3 + 2, none⟩ = some (.int .u8 x.f) := Fr.cell hnew (hcell k _ hx 2 _ rfl) id
      have HX := Lib.hid hx
      have HXW := Lib.hid hxw
      clear hcell hx hxw
      go_wp2_with (at_mapUpdate; refine wpList_put (E := evKeys) rfl _ _ _ 396 3 rfl Tryz.underlying396 (hM.alloc _) (by unfold maxLen; omega) (x.k, x.u) ⟨HXW.out.1, HXW.out.2.1⟩ (.int .i64 k) rfl rfl rfl ?_; intro w1 hM1 ho1)
      go_roundw
      case rel => exact ⟨k + 1, _, by omega, by go_num, hM1, by have := put_length M (x.k, x.u) (.int .i64 k); omega, HL.out.step HX.out, New.one (hnew.alloc _) ho1 (Nat.le_refl _)⟩
      case measure => simp [intOf]; omega
    · obtain rfl : k = l.length := by omega
      go_wp2
      obtain ⟨wo, rfl⟩ : ∃ wo : World, wo = wr := ⟨_, rfl⟩
      go_loopw [6, 27] (fun vo vi wr => ∃ (k : Nat) (o : List Ev), k ≤ l.length ∧ vi = .int .i64 k ∧ Own evE 232 w.heap.size wr vo o ∧ o.length ≤ k ∧ Hid (o ++ squeeze (l.drop k) = squeeze l) ∧ HasMap evKeys wr w.heap.size M ∧ New w wr ∧ vo.ownBlock ≠ some w.heap.size) (fun _ vi _ => l.length - (intOf vi).toNat)
      case atStart => exact ⟨0, [], Nat.zero_le _, rfl, Own.nil _ _ _ _, Nat.le_refl _, by show [] ++ squeeze (l.drop 0) = squeeze l; rfl, hM, hnew, by simp [Value.ownBlock]⟩
      case round =>
        obtain ⟨k, o, hk2, rfl, ho, hol, HS, hM2, hnew2, hne⟩ := hrel
        clear hM hnew hMl
        by_cases hkl : k < l.length
        · obtain ⟨x, hx⟩ : ∃ x, l[k]? = some x := ⟨_, List.getElem?_eq_getElem hkl⟩
          obtain ⟨b, off, rfl, hcell⟩ := HC.out (by rintro rfl; simp at hkl)
          have hxw := HW.out x (List.mem_of_getElem? hx)
          have c0 : wr.cell? ⟨b, off + k * 3, none⟩ = some (.int .i64 x.k) := Fr.cell hnew2 (hcell k _ hx 0 _ rfl) id
          have c1 : wr.cell? ⟨b, off + k * 3 + 1, none⟩ = some (.int .u32 x.u) := Fr.cell hnew2 (hcell k _ hx 1 _ rfl) id
          have c2 : wr.cell? ⟨b, off + k * 3 + 2, none⟩ = some (.int .u8 x.f) := Fr.cell hnew2 (hcell k _ hx 2 _ rfl) id
          have hsz2 := hnew2.size
          have hsd := squeeze_drop hx
          have hstep : later x (l.drop (k + 1)) = false → (o ++ [x]) ++ squeeze (l.drop (k + 1)) = squeeze l := fun h => by rw [← HS.out, hsd, h]; simp
          have hskip : later x (l.drop (k + 1)) = true → o ++ squeeze (l.drop (k + 1)) = squeeze l := fun h => by rw [← HS.out, hsd, h]; simp
          have HX := Lib.hid hx
          have HSTEP := Lib.hid hstep
          have HSKIP := Lib.hid hskip
          have HXW := Lib.hid hxw
          clear hcell hx hxw hsd hstep hskip
          obtain ⟨xk, xu, xf⟩ := x
          dsimp only at c0 c1 c2
          by_cases h3 : xk = 3
          · subst h3
            obtain ⟨j, hj1, hj2, hj3⟩ := HL.out.tells HX.out rfl
            have hrun := (hM2.alloc (.cells #[.int .i64 3, .int .u32 xu, .int .u8 xf] 232)).run_look (t := 396) Tryz.underlying396 (zeroInt _) (k := (3, xu)) ⟨HXW.out.1, HXW.out.2.1⟩
            rw [hj1] at hrun
            have hkv : evKeys.kv ((3 : Int), xu) = .agg #[.int .i64 3, .int .u32 xu] := rfl
            rw [hkv] at hrun
            simp only [Option.getD_some] at hrun
            have HJ := Lib.hid hj3
            clear hj1 hj3 hkv
            by_cases hjk : j = k
            · subst hjk
              go_wp2_with (at_builtin; refine wpList_push (E := evE) rfl _ _ _ rfl Tryz.underlying223 hi hz0 hz1 hz2 rfl ((ho.alloc _).alloc _) rfl ⟨3, xu, xf⟩ (wr.heap.size + 1) (Blk.new1 _ _ _ _) 1 rfl (by unfold maxLen; omega) (by omega) (by simp; omega) ?_; intro v2 w2 hv2 hf2 hl2)
              have hM3 : HasMap evKeys w2 w.heap.size M := ((hM2.alloc _).alloc _).fr hf2 hne
              have hne2 : v2.ownBlock ≠ some w.heap.size := by
                rcases hl2 with h | h
                · rw [h]; exact hne
                · rw [h]; have := hM2.lt; simp; omega
              have hnew3 := New.append ((hnew2.alloc _).alloc _) ((ho.alloc _).alloc _) hf2
              go_roundw
              case rel => exact ⟨j + 1, _, by omega, by go_num, hv2, by simp; omega, HSTEP.out (HJ.out.1 rfl), hM3, hnew3, hne2⟩
              case measure => simp [intOf]; omega
            · have hjb : ((j : Int) == (k : Int)) = false := by simp; omega
              have hlt : later ⟨3, xu, xf⟩ (l.drop (k + 1)) = true := by
                cases hb : later ⟨3, xu, xf⟩ (l.drop (k + 1)) with
                | true => rfl
                | false => exact absurd (HJ.out.2 hb) hjk
              have HLT := Lib.hid hlt
              clear hlt
              go_wp2
              go_roundw
              case rel => exact ⟨k + 1, o, by omega, by go_num, ho.alloc _, by omega, HSKIP.out HLT.out, hM2.alloc _, hnew2.alloc _, hne⟩
              case measure => simp [intOf]; omega
          · have hb3 : (xk != 3) = true := by simp [h3]
            have hl0 : later ⟨xk, xu, xf⟩ (l.drop (k + 1)) = false := by simp [later, h3]
            have HL0 := Lib.hid hl0
            clear hl0
            go_wp2_with (at_builtin; refine wpList_push (E := evE) rfl _ _ _ rfl Tryz.underlying223 hi hz0 hz1 hz2 rfl ((ho.alloc _).alloc _) rfl ⟨xk, xu, xf⟩ (wr.heap.size + 1) (Blk.new1 _ _ _ _) 1 rfl (by unfold maxLen; omega) (by omega) (by simp; omega) ?_; intro v2 w2 hv2 hf2 hl2)
            have hM3 : HasMap evKeys w2 w.heap.size M := ((hM2.alloc _).alloc _).fr hf2 hne
            have hne2 : v2.ownBlock ≠ some w.heap.size := by
              rcases hl2 with h | h
              · rw [h]; exact hne
              · rw [h]; have := hM2.lt; simp; omega
            have hnew3 := New.append ((hnew2.alloc _).alloc _) ((ho.alloc _).alloc _) hf2
            go_roundw
            case rel => exact ⟨k + 1, _, by omega, by go_num, hv2, by simp; omega, HSTEP.out HL0.out, hM3, hnew3, hne2⟩
            case measure => simp [intOf]; omega
        · go_wp2
          go_ret
          obtain rfl : k = l.length := by omega
          have he := HS.out
          rw [List.drop_length, squeeze, List.append_nil] at he
          subst he
          exact ⟨_, rfl, ho, hnew2⟩

end Go.Proofs.YtliimglbbiebiaaGreatDoor
end

section
/- Events are equal just if their three numbers are; slices.Equal tells whether two lists of events are equal. -/
namespace Go.Proofs.YtliimglbbiebiaaGreatDoor
open Go.RowKit

theorem ev_guard : Tryz.prog.eqGuardType Tryz.prog.depth 232 = false := by kernel_rfl
theorem ev_struct : Tryz.prog.underlying 232 = some (.struct (Tryz.prog.fieldsOf 232)) := by kernel_rfl
theorem ev_stood : Tryz.prog.stoodInHeld 232 = false := by kernel_rfl

theorem ev_eqIn (a b c a' b' c' : Int) (w : World) :
    (Op.equalIn 10000 232 (.agg #[.int .i64 a, .int .u32 b, .int .u8 c]) (.agg #[.int .i64 a', .int .u32 b', .int .u8 c'])).run Tryz.prog w = .ok (decide ((⟨a, b, c⟩ : Ev) = ⟨a', b', c'⟩)) w := by
  rw [show (10000 : Nat) = 9999 + 1 from rfl, run_equalIn_agg w 9999 232 _ _ ev_struct ev_stood]
  simp only [Program.fieldsOf, Tryz.underlying232]
  go_simp
  by_cases h1 : a = a' <;> by_cases h2 : b = b' <;> by_cases h3 : c = c' <;> simp [h1, h2, h3]

theorem ev_neq (a b c a' b' c' : Int) (w : World) :
    (binOp .neq 232 (.agg #[.int .i64 a, .int .u32 b, .int .u8 c]) (.agg #[.int .i64 a', .int .u32 b', .int .u8 c'])).run Tryz.prog w = .ok (.bool (!decide ((⟨a, b, c⟩ : Ev) = ⟨a', b', c'⟩))) w := by
  rw [run_neq_struct, ev_eqIn]
  rfl
theorem ev_eql (a b c a' b' c' : Int) (w : World) :
    (binOp .eql 232 (.agg #[.int .i64 a, .int .u32 b, .int .u8 c]) (.agg #[.int .i64 a', .int .u32 b', .int .u8 c'])).run Tryz.prog w = .ok (.bool (decide ((⟨a, b, c⟩ : Ev) = ⟨a', b', c'⟩))) w := by
  rw [run_eql_struct, ev_eqIn]
  rfl

end Go.Proofs.YtliimglbbiebiaaGreatDoor
end

