/- An index: Append. -/
import Derived.Test.YtmhhmenhfocfjaaFind
import Derived.Test.YtmhhmenhfocfjaaAscP
import Derived.Deep.RegionHeld3
import Derived.Deep.AppendSrc
namespace Go.Proofs.Ytmhhmenhfocfjaa
open Go.RowKit

section
variable {P : Program} {base : Nat} {w : World} {v : Value} {l : List Int} {te : TypeId}

/-- append(v, y) where v is a row told by its cells. -/
theorem run_push_urow (t ty : TypeId) {i : TypeInfo} {bytes : Nat} (ht : P.underlying t = some (.slice te)) (hi : P.info? te = some i) (hz : i.zero = some (.int .u32 0)) (hsize : i.size = 1) (hby : i.bytes = bytes) (hby2 : bytes ≤ 8)
    (h : URow base w v l) (y : Int) (g : Nat) (hg : Blk w g te #[.int .u32 y]) (c : Nat) (hl : l.length ≤ 1000000) (hbase : base ≤ w.heap.size) :
    ∃ v' w', (Builtin.append_ #[t, t] ty #[v, .slice (some ⟨g, 0, none⟩) 1 c]).run P w = .ok v' w' ∧ URow base w' v' (l ++ [y]) ∧ Fr (fun k => v.ownBlock = some k) w w' ∧ (∃ A n c, v' = .slice A n c) ∧ (v'.ownBlock = v.ownBlock ∨ v'.ownBlock = some w.heap.size) := by
  have hsrc : Src P i.size t (.slice (some ⟨g, 0, none⟩) 1 c) 1 [.int .u32 y] w := by
    refine Src.ofSlice w ht ⟨g, 0, none⟩ 1 c _ (by simp [hsize]) (fun j u hu => ?_) (by simp [Value.oneCell'])
    rw [Addr.add_lit, hg.cell]
    simpa using hu
  have grow : ∀ (A : Option Addr) (cp : Nat), v = .slice A l.length cp → cp < l.length + 1 → (Builtin.firstCells i.size l.length v).run P w.drew = .ok (l.map (Value.int .u32)).toArray w.drew →
      ∃ v' w', (Builtin.append_ #[t, t] ty #[v, .slice (some ⟨g, 0, none⟩) 1 c]).run P w = .ok v' w' ∧ URow base w' v' (l ++ [y]) ∧ Fr (fun k => v.ownBlock = some k) w w' ∧ (∃ A n c, v' = .slice A n c) ∧ (v'.ownBlock = v.ownBlock ∨ v'.ownBlock = some w.heap.size) := by
    rintro A cp rfl hcp hold
    have hge := grownCap_ge w (l.length + 1) cp te
    have hle := grownCap_le_maxLen w (l.length + 1) cp te (by unfold maxLen; omega)
    have hrun := run_append_grow_src (P := P) w t t ty te i (.int .u32 0) ht hi hz A l.length cp _ hold _ 1 _ hsrc hcp (by omega) (growslice_fits hcp (by
      have h1 : (l.length + 1) * i.bytes ≤ 1000001 * 8 := Nat.mul_le_mul (by omega) (by omega)
      omega))
    have hcn : ∀ j, (w.drew.alloc (.cells ((l.map (Value.int .u32) ++ [Value.int .u32 y]).toArray ++ Builtin.zeroCells (Value.int .u32 0).cells (grownCap w (l.length + 1) cp te - (l.length + 1))) te)).cell? ⟨w.heap.size, j, none⟩ = ((l.map (Value.int .u32) ++ [Value.int .u32 y]).toArray ++ Builtin.zeroCells (Value.int .u32 0).cells (grownCap w (l.length + 1) cp te - (l.length + 1)))[j]? := fun j => World.cell?_alloc_new w.drew _ _ j
    refine ⟨_, _, hrun, ?_, ((Fr.refl _ w).drew).alloc _, ⟨_, _, _, rfl⟩, .inr rfl⟩
    refine .inr ⟨w.heap.size, 0, _, by rw [List.length_append]; rfl, hbase, by simp, by rw [List.length_append]; exact hge, hle, fun j x hx => ?_, fun j hj => ⟨?_, ?_⟩⟩
    · rw [Nat.zero_add, hcn]
      rw [Array.getElem?_append_left (by
        have := (List.getElem?_eq_some_iff.1 hx).1
        simp only [List.length_append, List.length_singleton] at this
        simp
        omega), List.getElem?_toArray]
      have e1 : l.map (Value.int .u32) ++ [Value.int .u32 y] = (l ++ [y]).map (Value.int .u32) := by simp
      rw [e1, List.getElem?_map, hx]
      rfl
    · rw [Nat.zero_add, hcn]
      refine ⟨_, Array.getElem?_eq_getElem ?_⟩
      rw [Array.size_append, size_zeroCells]
      simp [Value.cells]
      omega
    · exact World.frozen?_alloc_new w.drew _ _ _
  rcases h with ⟨rfl, rfl⟩ | ⟨gb, off, cp, rfl, hb, hgl, hlc, hcm, hcells, hj⟩
  · exact grow none 0 rfl (by simp) (run_firstCells_none _ _ _ _ _)
  · by_cases hroom : l.length + 1 ≤ cp
    · obtain ⟨⟨z, hz⟩, hf⟩ := hj l.length (by omega)
      have hrun := run_append_room_src (P := P) w t t ty te i ht hi gb off l.length cp _ 1 _ hsrc hroom
        (fun j hj' => by
          obtain rfl : j = 0 := by simpa using hj'
          rw [hsize, Nat.mul_one, Nat.add_zero, hz]; rfl)
        (fun j hj' => by
          obtain rfl : j = 0 := by simpa using hj'
          rw [hsize, Nat.mul_one, Nat.add_zero, hf])
      rw [hsize, Nat.mul_one] at hrun
      refine ⟨_, _, hrun, ?_, ?_, ⟨_, _, _, rfl⟩, .inl rfl⟩
      · refine .inr ⟨gb, off, cp, by rw [List.length_append]; rfl, hb, by simpa [World.setCells, World.setCell] using hgl, by rw [List.length_append]; exact hroom, hcm, fun j x hx => ?_, fun j hjc => ⟨?_, ?_⟩⟩
        · simp only [World.setCells]
          by_cases hjl : j = l.length
          · subst hjl
            have hxy : x = y := by simpa using hx.symm
            subst hxy
            exact World.cell?_setCell_same _ _ _ (by rw [hz] <;> rfl)
          · rw [World.cell?_setCell_other _ _ _ _ (by simp <;> omega)]
            have hjl2 : j < l.length := by have := (List.getElem?_eq_some_iff.1 hx).1; simp at this; omega
            rw [List.getElem?_append_left hjl2] at hx
            exact hcells j x hx
        · simp only [World.setCells]
          obtain ⟨⟨z', hz'⟩, _⟩ := hj j hjc
          by_cases hjl : j = l.length
          · subst hjl
            exact ⟨_, World.cell?_setCell_same _ _ _ (by rw [hz] <;> rfl)⟩
          · rw [World.cell?_setCell_other _ _ _ _ (by simp <;> omega)]
            exact ⟨z', hz'⟩
        · simp only [World.setCells, World.frozen?_setCell]
          exact (hj j hjc).2
      · simp only [World.setCells]
        exact Fr.setCell (S := fun k => Value.ownBlock (.slice (some ⟨gb, off, none⟩) l.length cp) = some k) (p := ⟨gb, off + l.length, none⟩) (Fr.refl _ w) (fun _ => rfl) _
    · refine grow (some ⟨gb, off, none⟩) cp rfl (by omega) ?_
      refine run_firstCells_some (P := P) w.drew i.size l.length ⟨gb, off, none⟩ l.length cp _ (by simp [hsize]) fun j u hu => ?_
      rw [List.getElem?_map] at hu
      obtain ⟨x, hx, rfl⟩ := Option.map_eq_some_iff.1 hu
      rw [Addr.add_lit]
      exact hcells j x hx

variable {ops : Array Oper} {rest : List Oper} {o : Oper} {a : Act} {Q : Exit → Act → World → Prop}
theorem wpList_push_urow (hgd : o.guard = none) (s x : Operand) (t : TypeId) (ho : o.op = .call { callee := .builtin .append, args := #[s, x], argTypes := #[t, t] })
    {i : TypeInfo} {bytes : Nat} (ht : P.underlying t = some (.slice te)) (hi : P.info? te = some i) (hz : i.zero = some (.int .u32 0)) (hsize : i.size = 1) (hby : i.bytes = bytes) (hby2 : bytes ≤ 8)
    (h : URow base w v l) (hs : a.eval s = v) (y : Int) (g : Nat) (hg : Blk w g te #[.int .u32 y]) (c : Nat) (hx : a.eval x = .slice (some ⟨g, 0, none⟩) 1 c) (hl : l.length ≤ 1000000) (hbase : base ≤ w.heap.size)
    (hK : ∀ A n c w', URow base w' (.slice A n c) (l ++ [y]) → Fr (fun k => v.ownBlock = some k) w w' → Hid (Value.ownBlock (.slice A n c) = v.ownBlock ∨ Value.ownBlock (.slice A n c) = some w.heap.size) → wpList P ops Q rest (a.put o.dst (.slice A n c)) w') :
    wpList P ops Q (o :: rest) a w := by
  obtain ⟨v', w', hr, h1, h2, ⟨A, n, c, rfl⟩, h3⟩ := run_push_urow (P := P) t o.type ht hi hz hsize hby hby2 h y g hg c hl hbase
  refine wpList_plain hgd fun K' hK' => ?_
  unfold Oper.wp execOp
  simp only [ho, resolve, invoke, builtin, Sem.run_bind, Sem.run_pure, Result.andThen_ok, List.map_toArray, List.map_cons, List.map_nil, hs, hx, hr]
  exact hK' _ _ (hK A n c w' h1 h2 h3)
end

theorem findAt_ex (l : List Int) (u : Int) : ∃ k, FindAt l u k := by
  suffices h : ∀ n k, l.length - k = n → k ≤ l.length → (k = 0 ∨ ∃ y, l[k - 1]? = some y ∧ ¬ u ≤ y) → ∃ k, FindAt l u k from h _ 0 rfl (Nat.zero_le _) (.inl rfl)
  intro n
  induction n with
  | zero =>
    intro k hk hkl h1
    exact ⟨k, hkl, h1, .inl (by omega)⟩
  | succ n ih =>
    intro k hk hkl h1
    have h2 : k < l.length := by omega
    obtain ⟨y, hy⟩ : ∃ y, l[k]? = some y := ⟨_, List.getElem?_eq_getElem h2⟩
    have h3 : l.length - (k + 1) = n := by clear h1; omega
    by_cases hu : u ≤ y
    · exact ⟨k, hkl, h1, .inr ⟨y, hy, hu⟩⟩
    · exact ih (k + 1) h3 h2 (.inr ⟨y, by simpa using hy, hu⟩)

/-- What Append leaves, where find has handed back k. -/
def appOf (l : List Int) (uid : Int) (k : Nat) : List Int × Bool := if uid = 0 ∨ k < l.length then (l, false) else (l ++ [uid], true)

/-- Block x is an index whose slice is u, which reads as l. -/
def IdxU (base : Nat) (w : World) (x : Nat) (u : Value) (l : List Int) : Prop := Blk w x 54 #[u] ∧ URow base w u l ∧ u.ownBlock ≠ some x
theorem IdxU.fr {base x : Nat} {w w' : World} {u : Value} {l : List Int} {S : Nat → Prop} (h : IdxU base w x u l) (hf : Fr S w w') (h1 : ¬ S x) (h2 : ∀ b, u.ownBlock = some b → ¬ S b) : IdxU base w' x u l :=
  ⟨Fr.blk hf h.1 h1, h.2.1.fr hf h2, h.2.2⟩
theorem IdxU.new {base x : Nat} {w w' : World} {u : Value} {l : List Int} (h : IdxU base w x u l) (hf : New w w') : IdxU base w' x u l := h.fr hf id fun _ _ => id
theorem IdxU.at_ {base x : Nat} {w : World} {u : Value} {l : List Int} (h : IdxU base w x u l) : IdxAt base w x l := ⟨u, h.1, h.2.1⟩
/-- Behind Append, Remove: the index's own block and its row alone have turned. -/
abbrev IFr (x : Nat) (u : Value) (w w' : World) : Prop := Fr (fun k => k = x ∨ u.ownBlock = some k) w w'
/-- The row is the one that it was, or a new one. -/
def Stays (w : World) (u u' : Value) : Prop := u'.ownBlock = u.ownBlock ∨ ∃ b, u'.ownBlock = some b ∧ w.heap.size ≤ b

set_option maxHeartbeats 400000 in
theorem iapp_nil (u : Int) (w : World) : Calls Try.prog 17 #[.pointer none, .int .u32 u] w fun e w' => e = .returned (.bool false) ∧ New w w' := by
  go_enter Try.func17, Try.ntmps17
  go_wp2_with fail
  go_quiet (fail)
  go_wp2
  go_ret
  exact ⟨rfl, (New.refl w).drewN _⟩

set_option maxRecDepth 100000 in
set_option maxHeartbeats 3200000 in
theorem iapp_any {base x : Nat} {w : World} {u : Value} {l : List Int} (h : IdxU base w x u l) (hbase : base ≤ w.heap.size) (hl : l.length ≤ 100000) (uid : Int) :
    Calls Try.prog 17 #[.pointer (some ⟨x, 0, none⟩), .int .u32 uid] w fun e w' => ∃ (k : Nat) (u' : Value), e = .returned (.bool (appOf l uid k).2) ∧ FindAt l uid k ∧ IdxU base w' x u' (appOf l uid k).1 ∧ IFr x u w w' ∧ Stays w u u' := by
  obtain ⟨i0, hi, hz0, hz1, hz2⟩ := info_parts u32_info
  have HF := Lib.hid (fun n => find_any (h.at_.new ((New.refl w).drewN n)) hl uid)
  have H := Lib.hid h
  obtain ⟨A, c, rfl, hlc⟩ := h.2.1.form
  have c0 : w.cell? ⟨x, 0, none⟩ = some (.slice A l.length c) := h.1.cell 0
  have f0 : w.frozen? ⟨x, 0, none⟩ = false := h.1.frozen 0
  clear h
  cases hu0 : (uid == 0)
  · go_enter Try.func17, Try.ntmps17
    go_wp2_with fail
    go_region_held3 (fun w' => w'.cell? ⟨x, 0, none⟩ = some (.slice A l.length c)) (first | go_keep | assumption)
      ((first
        | (go_at_call 27
           refine (HF.out _).mono ?_
           rintro e w1 ⟨k, rfl, hk, hn1⟩
           have hn2 : New w w1 := ((New.refl w).drewN _).trans hn1
           have c1 : w1.cell? ⟨x, 0, none⟩ = some (.slice A l.length c) := Fr.cell hn2 c0 id
           have HK := Lib.hid hk
           have hkl := hk.1
           clear hk)
        | fail))
    have hU0 := Lib.hid (show uid ≠ 0 by simpa using hu0)
    by_cases hlt : k < l.length
    · have hd : decide (k < l.length) = true := decide_eq_true hlt
      have happ : appOf l uid k = (l, false) := if_pos (.inr hlt)
      have HAPP := Lib.hid happ
      clear happ
      rw [hd]
      go_wp2
      go_ret
      refine ⟨k, _, by rw [HAPP.out]; rfl, HK.out, ?_, hn2.to, .inl rfl⟩
      rw [HAPP.out]
      exact H.out.new hn2
    · have hd : decide (k < l.length) = false := decide_eq_false hlt
      have happ : appOf l uid k = (l ++ [uid], true) := if_neg (by
        rintro (h1 | h1)
        · exact hU0.out h1
        · exact hlt h1)
      have HAPP := Lib.hid happ
      have f1 : w1.frozen? ⟨x, 0, none⟩ = false := (New.blk hn2 H.out.1).frozen 0
      have hrow := Lib.hid (H.out.2.1.new (hn2.alloc (.cells #[.int .u32 uid] 28)))
      have hblk := Lib.hid (New.blk (hn2.alloc (.cells #[.int .u32 uid] 28)) H.out.1)
      have hsz := hn2.size
      have hxl := H.out.1.lt
      have HX := Lib.hid (fun (e : Value.ownBlock (.slice A l.length c) = some x) => H.out.2.2 e)
      clear happ
      rw [hd]
      go_wp2_with (at_builtin; refine wpList_push_urow (te := 28) rfl _ _ _ rfl Try.underlying22 hi hz0 hz1 hz2 (by omega) hrow.out rfl uid w1.heap.size (Blk.new _ _ _) 1 rfl (by omega) (by simp; omega) ?_; intro A2 n2 c2 w2 hr2 hf2 hs2; have b2 := Lib.hid (Fr.blk hf2 hblk.out HX.out); have c2x : w2.cell? ⟨x, 0, none⟩ = some (.slice A l.length c) := b2.out.cell 0; have f2x : w2.frozen? ⟨x, 0, none⟩ = false := b2.out.frozen 0)
      go_ret
      have hxn : Value.ownBlock (.slice A2 n2 c2) ≠ some x := fun e => by
        rcases hs2.out with h | h
        · exact HX.out (h ▸ e)
        · rw [h] at e; injection e with e; simp at e; omega
      refine ⟨k, .slice A2 n2 c2, by rw [HAPP.out]; rfl, HK.out, ?_, ?_, ?_⟩
      · rw [HAPP.out]
        refine ⟨?_, ?_, hxn⟩
        · exact b2.out.set_ 0 _
        · exact hr2.fr (Fr.setCell (S := fun k => k = x) (p := ⟨x, 0, none⟩) (Fr.refl _ w2) (fun _ => rfl) _) fun b hb e => hxn (e ▸ hb)
      · have h1 : IFr x (.slice A l.length c) w w2 := Fr.trans' (New.to (hn2.alloc _)) hf2 fun i _ h => .inr h
        exact Fr.setCell h1 (fun _ => .inl rfl) _
      · rcases hs2.out with h | h
        · exact .inl h
        · exact .inr ⟨_, h, by simp; omega⟩
  · have HU := Lib.hid (show uid = 0 by simpa using hu0)
    have hk0 : ∃ k, FindAt l uid k := findAt_ex l uid
    go_enter Try.func17, Try.ntmps17
    go_wp2_with fail
    go_quiet (fail)
    go_wp2
    go_ret
    obtain ⟨k, hk⟩ := hk0
    have happ : appOf l uid k = (l, false) := if_pos (.inl HU.out)
    exact ⟨k, _, by rw [happ]; rfl, hk, by rw [happ]; exact H.out.new ((New.refl w).drewN _), New.to ((New.refl w).drewN _), .inl rfl⟩

end Go.Proofs.Ytmhhmenhfocfjaa
