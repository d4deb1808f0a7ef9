/- Maps of whatever element type, said as a list of keys and values: look-up, store, delete, len, over the kit's laws on a map's block. Plain lemmas; of no program. -/
import Derived.Test.YtjnaihhkbbeaoaaWords
import Derived.Maps.Own
import Derived.Maps.OwnOps
import Derived.Maps.OwnSet
namespace Go.Proofs.Ytjnaihhkbbeaoaa
open Go.RowKit Go.Maps

/-- How the keys of a map type stand as values and as closed data. -/
structure KeyEnc (P : Program) (K : TypeId) (α : Type) where
  law : Keyed P K
  kv : α → Value
  kl : α → Lit
  ok : α → Prop
  key : ∀ a, ok a → keyOf P K (kv a) = some (kl a)
  inj : ∀ a b, kv a = kv b → a = b

section
variable {P : Program} {K : TypeId} {α : Type} (E : KeyEnc P K α)
theorem KeyEnc.isKey {a : α} (h : E.ok a) : WideAt.IsKeyLit (E.kl a) := E.law.key (E.key a h)
theorem KeyEnc.ne {a b : α} (ha : E.ok a) (hb : E.ok b) (h : a ≠ b) : E.kl a ≠ E.kl b := fun e => h (E.inj a b (E.law.inj (E.key a ha) (by rw [e]; exact E.key b hb)))
end

/-- An element is told as itself. -/
def R0 (v : Value) : Option (DataW Value × List MemPlace) := some (.held v, [])

section
variable {α : Type} [DecidableEq α]
def get (l : List (α × Value)) (a : α) : Option Value := (l.find? fun p => decide (p.1 = a)).map Prod.snd
def del (l : List (α × Value)) (a : α) : List (α × Value) := l.filter fun p => decide (p.1 ≠ a)
def put (l : List (α × Value)) (a : α) (v : Value) : List (α × Value) := (a, v) :: del l a

theorem get_nil (a : α) : get [] a = none := rfl
theorem get_cons (p : α × Value) (l : List (α × Value)) (a : α) : get (p :: l) a = if p.1 = a then some p.2 else get l a := by
  unfold get
  rw [List.find?_cons]
  by_cases h : p.1 = a <;> simp [h]
theorem get_del_same (l : List (α × Value)) (a : α) : get (del l a) a = none := by
  unfold get del
  rw [Option.map_eq_none_iff, List.find?_eq_none]
  intro p hp
  have := (List.mem_filter.1 hp).2
  simpa using this
theorem get_del_other (l : List (α × Value)) {a b : α} (h : b ≠ a) : get (del l a) b = get l b := by
  induction l with
  | nil => rfl
  | cons p l ih =>
    unfold del at ih ⊢
    rw [List.filter_cons]
    by_cases hp : p.1 = a
    · rw [if_neg (by simpa using hp), ih, get_cons, if_neg (by rw [hp]; exact fun e => h e.symm)]
    · rw [if_pos (by simpa using hp), get_cons, get_cons, ih]
theorem get_put_same (l : List (α × Value)) (a : α) (v : Value) : get (put l a v) a = some v := by unfold put; rw [get_cons, if_pos rfl]
theorem get_put_other (l : List (α × Value)) {a b : α} (v : Value) (h : b ≠ a) : get (put l a v) b = get l b := by
  unfold put
  rw [get_cons, if_neg (fun e => h e.symm), get_del_other l h]
theorem mem_of_get {l : List (α × Value)} {a : α} {v : Value} (h : get l a = some v) : (a, v) ∈ l := by
  unfold get at h
  obtain ⟨p, hp, rfl⟩ := Option.map_eq_some_iff.1 h
  have h1 := List.find?_some hp
  have h2 := List.mem_of_find?_eq_some hp
  obtain rfl : p.1 = a := by simpa using h1
  exact h2
theorem get_of_mem {l : List (α × Value)} (hnd : (l.map Prod.fst).Nodup) {a : α} {v : Value} (h : (a, v) ∈ l) : get l a = some v := by
  induction l with
  | nil => cases h
  | cons p l ih =>
    rw [List.map_cons, List.nodup_cons] at hnd
    rw [get_cons]
    rcases List.mem_cons.1 h with rfl | h'
    · rw [if_pos rfl]
    · rw [if_neg (fun e => hnd.1 (by rw [e]; exact List.mem_map.2 ⟨(a, v), h', rfl⟩)), ih hnd.2 h']
theorem get_none_iff {l : List (α × Value)} {a : α} : get l a = none ↔ a ∉ l.map Prod.fst := by
  unfold get
  rw [Option.map_eq_none_iff, List.find?_eq_none]
  constructor
  · intro h hm
    obtain ⟨p, hp, rfl⟩ := List.mem_map.1 hm
    exact h p hp (by simp)
  · intro h p hp e
    exact h (List.mem_map.2 ⟨p, hp, by simpa using e⟩)
theorem del_nodup {l : List (α × Value)} (hnd : (l.map Prod.fst).Nodup) (a : α) : ((del l a).map Prod.fst).Nodup :=
  hnd.sublist (List.Sublist.map _ List.filter_sublist)
theorem put_nodup {l : List (α × Value)} (hnd : (l.map Prod.fst).Nodup) (a : α) (v : Value) : ((put l a v).map Prod.fst).Nodup := by
  unfold put
  rw [List.map_cons, List.nodup_cons]
  exact ⟨get_none_iff.1 (get_del_same l a), del_nodup hnd a⟩
theorem del_length {l : List (α × Value)} (hnd : (l.map Prod.fst).Nodup) (a : α) : (del l a).length + (if (get l a).isSome then 1 else 0) = l.length := by
  induction l with
  | nil => rfl
  | cons p l ih =>
    rw [List.map_cons, List.nodup_cons] at hnd
    have ih := ih hnd.2
    rw [get_cons]
    unfold del at ih ⊢
    rw [List.filter_cons]
    by_cases hp : p.1 = a
    · have hn : get l a = none := get_none_iff.2 (by rw [← hp]; exact hnd.1)
      rw [if_neg (by simpa using hp), if_pos hp]
      rw [hn] at ih
      simp at ih ⊢
      omega
    · rw [if_pos (by simpa using hp), if_neg hp]
      simp only [List.length_cons]
      omega
end

/-- Block b is a map that holds just the keys and values of l. -/
structure HasMap {P : Program} {K : TypeId} {α : Type} [DecidableEq α] (E : KeyEnc P K α) (w : World) (b : Nat) (l : List (α × Value)) : Prop where
  nd : (l.map Prod.fst).Nodup
  oks : ∀ p ∈ l, E.ok p.1
  own : ∃ D : DataW Value, w.ownsMap P K R0 b l.length D ∧ Maps.size D = l.length ∧ ∀ a, E.ok a → ∀ z, D.atKey (E.kl a) z = match get l a with | some v => .held v | none => z

section
variable {P : Program} {K : TypeId} {α : Type} [DecidableEq α] {E : KeyEnc P K α} {w w' : World} {b : Nat} {l : List (α × Value)}

theorem HasMap.lt (h : HasMap E w b l) : b < w.heap.size := by
  obtain ⟨D, h1, _⟩ := h.own
  exact h1.lt
theorem HasMap.made (E : KeyEnc P K α) (w : World) : HasMap E (w.alloc (.map #[] 0)) w.heap.size [] :=
  ⟨by simp, by simp, .map [], World.ownsMap_made w P K R0, rfl, fun _ _ _ => rfl⟩
theorem HasMap.of_block (h : HasMap E w b l) (hb : w'.heap[b]? = w.heap[b]?) : HasMap E w' b l := by
  obtain ⟨D, ⟨es, clock, h1, h2⟩, h3⟩ := h.own
  exact ⟨h.nd, h.oks, D, ⟨es, clock, hb.trans h1, h2⟩, h3⟩
theorem HasMap.fr {S : Nat → Prop} (h : HasMap E w b l) (hf : Fr S w w') (hb : ¬ S b) : HasMap E w' b l := h.of_block (hf.block b h.lt hb)
theorem HasMap.drew (h : HasMap E w b l) : HasMap E w.drew b l := h.of_block rfl
theorem HasMap.alloc (h : HasMap E w b l) (o : Obj) : HasMap E (w.alloc o) b l := h.of_block (Below.heap_alloc w o b h.lt)
theorem HasMap.setCell (h : HasMap E w b l) {a : Addr} (ha : b ≠ a.block) (u : Value) : HasMap E (w.setCell a u) b l := h.of_block (Below.heap_setCell w a u b ha)

theorem ownsMap_size {R : Value → Option (DataW Value × List MemPlace)} {n : Nat} {D : DataW Value} (h : w.ownsMap P K R b n D) : w.ownsMap P K R b (Maps.size D) D := by
  obtain ⟨es, clock, h1, h2, _, h4⟩ := h
  refine ⟨es, clock, h1, h2, ?_, h4⟩
  rw [h4]
  simp [Maps.size, length_sorted]

theorem has_of {D : DataW Value} {o : Option Value} {kl : Lit} (h : ∀ z, D.atKey kl z = match o with | some v => .held v | none => z) : Maps.has D kl = o.isSome := by
  cases o with
  | none => exact Maps.has_false_of_atKey h
  | some v => exact Maps.has_true_of_atKey h

theorem HasMap.run_look {t e : TypeId} (h : HasMap E w b l) (ht : P.underlying t = some (.map K e)) {z : Value} (hz : (zeroValue e).run P w = .ok z w) {k : α} (hk : E.ok k) :
    (Instr.lookup t (.map (some b)) (E.kv k) false).run P w = .ok ((get l k).getD z) w := by
  obtain ⟨D, h1, _, h3⟩ := h.own
  obtain ⟨v, ps, hr, hv⟩ := h1.lookup E.law ht hz (zd := .held z) (zp := []) rfl (E.key k hk)
  rw [hr]
  simp only [R0, Option.some.injEq, Prod.mk.injEq] at hv
  have h4 := hv.1
  rw [h3 k hk] at h4
  cases hg : get l k with
  | none => rw [hg] at h4; injection h4 with h4; rw [h4]; rfl
  | some u => rw [hg] at h4; injection h4 with h4; rw [h4]; rfl

theorem HasMap.run_look_ok {t e : TypeId} (h : HasMap E w b l) (ht : P.underlying t = some (.map K e)) {z : Value} (hz : (zeroValue e).run P w = .ok z w) {k : α} (hk : E.ok k) :
    (Instr.lookup t (.map (some b)) (E.kv k) true).run P w = .ok (.tuple #[(get l k).getD z, .bool (get l k).isSome]) w := by
  obtain ⟨D, h1, _, h3⟩ := h.own
  obtain ⟨v, ps, hr, hv⟩ := h1.look_ok E.law ht hz (zd := .held z) (zp := []) rfl (E.key k hk)
  rw [hr, has_of (h3 k hk)]
  simp only [R0, Option.some.injEq, Prod.mk.injEq] at hv
  have h4 := hv.1
  rw [h3 k hk] at h4
  cases hg : get l k with
  | none => rw [hg] at h4; injection h4 with h4; rw [h4]; rfl
  | some u => rw [hg] at h4; injection h4 with h4; rw [h4]; rfl

theorem HasMap.run_put {t e : TypeId} (h : HasMap E w b l) (ht : P.underlying t = some (.map K e)) (hn : l.length < maxLen) {k : α} (hk : E.ok k) (v : Value) :
    ∃ w', (Instr.mapUpdate t (.map (some b)) (E.kv k) v).run P w = .ok () w' ∧ HasMap E w' b (put l k v) ∧ One b w w' := by
  obtain ⟨D, h1, h2, h3⟩ := h.own
  obtain ⟨w', hr, h4, h5⟩ := h1.update E.law ht hn (E.key k hk) (val := v) (d := .held v) (ps := []) rfl
  have hsz : Maps.size (D.put (E.kl k) (.held v)) = (put l k v).length := by
    rw [Maps.size_put (h1.tidy E.law), has_of (h3 k hk), h2]
    have := del_length h.nd k
    unfold put
    rw [List.length_cons]
    split at this <;> rename_i hh
    · rw [if_pos hh]; omega
    · rw [if_neg hh]; omega
  have h6 := ownsMap_size h4
  rw [hsz] at h6
  refine ⟨w', hr, ⟨put_nodup h.nd k v, fun p hp => ?_, _, h6, hsz, fun a ha z => ?_⟩, Fr.of_grown h5 fun i hi => by cases hi; rfl⟩
  · rcases List.mem_cons.1 hp with rfl | hp
    · exact hk
    · exact h.oks p (List.mem_filter.1 hp).1
  · by_cases hak : a = k
    · subst hak
      rw [get_put_same, Maps.atKey_put_same h1.isMap (E.isKey hk)]
    · rw [get_put_other l v hak, Maps.atKey_put_other (E.ne ha hk hak), h3 a ha]

theorem HasMap.run_del {t e : TypeId} (h : HasMap E w b l) (ht : P.underlying t = some (.map K e)) {k : α} (hk : E.ok k) (ty : TypeId) :
    ∃ w', (Builtin.delete_ #[t, K] ty #[.map (some b), E.kv k]).run P w = .ok (.tuple #[]) w' ∧ HasMap E w' b (del l k) ∧ One b w w' := by
  obtain ⟨D, h1, h2, h3⟩ := h.own
  obtain ⟨w', hr, h4, h5⟩ := h1.drop E.law ht (E.key k hk) ty
  have hsz : Maps.size (D.del (E.kl k)) = (del l k).length := by
    have h7 := Maps.size_del (k := E.kl k) (h1.tidy E.law)
    rw [has_of (h3 k hk), h2] at h7
    have := del_length h.nd k
    split at this <;> rename_i hh
    · rw [if_pos hh] at h7; omega
    · rw [if_neg hh] at h7; omega
  have h6 := ownsMap_size h4
  rw [hsz] at h6
  refine ⟨w', hr, ⟨del_nodup h.nd k, fun p hp => h.oks p (List.mem_filter.1 hp).1, _, h6, hsz, fun a ha z => ?_⟩, Fr.of_grown h5.grown fun i hi => by cases hi; rfl⟩
  by_cases hak : a = k
  · subst hak
    rw [get_del_same, Maps.atKey_del_same]
  · rw [get_del_other l hak, Maps.atKey_del_other (E.ne ha hk hak), h3 a ha]

theorem HasMap.run_len {t e : TypeId} (h : HasMap E w b l) (ht : P.underlying t = some (.map K e)) (ty : TypeId) : (Builtin.len_ #[t] ty #[.map (some b)]).run P w = .ok (.int .i64 l.length) w := by
  obtain ⟨D, h1, h2, _⟩ := h.own
  rw [h1.len ht ty, h2]
end

/-! at the operation, for the walk -/
section
variable {P : Program} {K : TypeId} {α : Type} [DecidableEq α] {E : KeyEnc P K α} {w : World} {b : Nat} {l : List (α × Value)}
variable {ops : Array Oper} {rest : List Oper} {o : Oper} {a : Act} {Q : Exit → Act → World → Prop}

theorem wpList_look (hg : o.guard = none) (m x : Operand) (t e : TypeId) (hop : o.op = Op.lookup t m x false) (ht : P.underlying t = some (.map K e)) {z : Value} (hz : (zeroValue e).run P w = .ok z w)
    (h : HasMap E w b l) (k : α) (hk : E.ok k) (hm : a.eval m = .map (some b)) (hx : a.eval x = E.kv k)
    (hK : wpList P ops Q rest (a.put o.dst ((get l k).getD z)) w) : wpList P ops Q (o :: rest) a w := by
  refine wpList_plain hg fun K' hK' => ?_
  unfold Oper.wp
  simp [execOp, hop, hm, hx, h.run_look ht hz hk, Result.andThen]
  exact hK' _ _ hK

theorem wpList_look_ok (hg : o.guard = none) (m x : Operand) (t e : TypeId) (hop : o.op = Op.lookup t m x true) (ht : P.underlying t = some (.map K e)) {z : Value} (hz : (zeroValue e).run P w = .ok z w)
    (h : HasMap E w b l) (k : α) (hk : E.ok k) (hm : a.eval m = .map (some b)) (hx : a.eval x = E.kv k)
    (hK : wpList P ops Q rest (a.put o.dst (.tuple #[(get l k).getD z, .bool (get l k).isSome])) w) : wpList P ops Q (o :: rest) a w := by
  refine wpList_plain hg fun K' hK' => ?_
  unfold Oper.wp
  simp only [execOp, hop, hm, hx]
  simp [h.run_look_ok ht hz hk, Result.andThen]
  exact hK' _ _ hK

theorem wpList_put (hg : o.guard = none) (m x v : Operand) (t e : TypeId) (hop : o.op = Op.mapUpdate t m x v) (ht : P.underlying t = some (.map K e))
    (h : HasMap E w b l) (hn : l.length < maxLen) (k : α) (hk : E.ok k) (u : Value) (hm : a.eval m = .map (some b)) (hx : a.eval x = E.kv k) (hv : a.eval v = u)
    (hK : ∀ w', HasMap E w' b (put l k u) → One b w w' → wpList P ops Q rest (a.put o.dst undef) w') : wpList P ops Q (o :: rest) a w := by
  refine wpList_plain hg fun K' hK' => ?_
  obtain ⟨w', hr, h1, h2⟩ := h.run_put ht hn hk u
  unfold Oper.wp
  simp [execOp, hop, hm, hx, hv, hr, Result.andThen]
  exact hK' _ _ (hK w' h1 h2)

theorem wpList_del (hg : o.guard = none) (m x : Operand) (t e : TypeId) (hop : o.op = Op.call { callee := Callee.builtin Builtin.delete, args := #[m, x], argTypes := #[t, K] }) (ht : P.underlying t = some (.map K e))
    (h : HasMap E w b l) (k : α) (hk : E.ok k) (hm : a.eval m = .map (some b)) (hx : a.eval x = E.kv k)
    (hK : ∀ w', HasMap E w' b (del l k) → One b w w' → wpList P ops Q rest (a.put o.dst (.tuple #[])) w') : wpList P ops Q (o :: rest) a w := by
  refine wpList_plain hg fun K' hK' => ?_
  obtain ⟨w', hr, h1, h2⟩ := h.run_del ht hk o.type
  unfold Oper.wp
  simp [execOp, hop, resolve, invoke, builtin, hm, hx, hr, Result.andThen]
  exact hK' _ _ (hK w' h1 h2)

theorem wpList_len (hg : o.guard = none) (m : Operand) (t e : TypeId) (hop : o.op = Op.call { callee := Callee.builtin Builtin.len, args := #[m], argTypes := #[t] }) (ht : P.underlying t = some (.map K e))
    (h : HasMap E w b l) (hm : a.eval m = .map (some b)) (hK : wpList P ops Q rest (a.put o.dst (.int .i64 l.length)) w) : wpList P ops Q (o :: rest) a w := by
  refine wpList_plain hg fun K' hK' => ?_
  unfold Oper.wp
  simp [execOp, hop, resolve, invoke, builtin, hm, h.run_len ht o.type, Result.andThen]
  exact hK' _ _ hK
end

/-- The keys of an integer kind. -/
def intKeys {P : Program} {K : TypeId} {q : IntKind} (hk : P.underlying K = some (.int q)) : KeyEnc P K Int where
  law := int_keyed hk
  kv := Value.int q
  kl := Lit.int q
  ok := fun n => (Lit.int q n).wf = true
  key := fun _ h => keyOf_int_mk hk h
  inj := fun _ _ h => by injection h

end Go.Proofs.Ytjnaihhkbbeaoaa
