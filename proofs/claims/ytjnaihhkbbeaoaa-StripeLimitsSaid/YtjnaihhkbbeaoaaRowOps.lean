/- Owned rows: clear behind a place; append of zero values to the nil slice. Plain lemmas; of no program. -/
import Derived.Test.YtjnaihhkbbeaoaaRws
import Derived.Laws.OwnMore
import Derived.Laws.CopyRow
import Derived.Lib.SliceRun
import Derived.Lib.AppendZerosOnto
namespace Go.Proofs.Ytjnaihhkbbeaoaa
open Go.RowKit

theorem Elem.cells_take {α : Type} (E : Elem α) (l : List α) (i : Nat) (hi : i ≤ l.length) : (E.cells l).take (i * E.sz) = E.cells (l.take i) := by
  have h : E.cells l = E.cells (l.take i) ++ E.cells (l.drop i) := by rw [← E.cells_append, List.take_append_drop]
  rw [h, List.take_append_of_le_length (by rw [E.cells_length, List.length_take, Nat.min_eq_left hi]; exact Nat.le_refl _)]
  exact List.take_of_length_le (by rw [E.cells_length, List.length_take, Nat.min_eq_left hi]; exact Nat.le_refl _)

theorem zeroCells_size (z : Array Value) (n : Nat) : (Builtin.zeroCells z n).size = n * z.size := by simp [Builtin.zeroCells]
theorem zeroCells_one (z : Array Value) (n : Nat) (h : ∀ u ∈ z.toList, u.oneCell' = true) : ∀ u ∈ (Builtin.zeroCells z n).toList, u.oneCell' = true := by
  intro u hu
  simp only [Builtin.zeroCells, Array.toList_map, List.mem_map] at hu
  obtain ⟨i, hi, rfl⟩ := hu
  have hi' : i < n * z.size := by simpa using hi
  have hz : 0 < z.size := by
    rcases Nat.eq_zero_or_pos z.size with h0 | h0
    · rw [h0] at hi'; omega
    · exact h0
  have hlt := Nat.mod_lt i hz
  rw [getElem!_pos z (i % z.size) hlt]
  exact h _ (Array.mem_toList_iff.2 (Array.getElem_mem hlt))

section
variable {P : Program} {α : Type} {E : Elem α} {e : TypeId} {base : Nat} {w : World} {l : List α}
variable {ops : Array Oper} {rest : List Oper} {o : Oper} {a : Act} {Q : Exit → Act → World → Prop}

theorem run_clear_own {t ty : TypeId} {z : Value} (ht : P.underlying t = some (.slice e)) (hv : ∀ w, (zeroValue e).run P w = .ok z w) (hzs : z.cells.size = E.sz) (hz1 : ∀ u ∈ z.cells.toList, u.oneCell' = true)
    {g n c : Nat} (h : Own E e base w (.slice (some ⟨g, 0, none⟩) n c) l) (i d : Nat) (hi : i < n) :
    ∃ w', (Builtin.clear_ #[t] ty #[.slice (some ⟨g, i * E.sz, none⟩) (n - i) d]).run P w = .ok (.tuple #[]) w' ∧ Own E e base w' (.slice (some ⟨g, 0, none⟩) i c) (l.take i) ∧ Fr (fun k => k = g) w w' := by
  obtain ⟨A, c0, he, _⟩ := Own.form h
  injection he with h1 h2 h3
  subst h1 h2
  rcases h.2 with ⟨h', _⟩ | ⟨g', cap', cur, h', hb, hg, hnc, hcm, hcs, htake⟩
  · simp at h'
  · simp only [Value.slice.injEq, Option.some.injEq, Addr.mk.injEq, and_true, true_and] at h'
    obtain ⟨rfl, rfl⟩ := h'
    have hvl : (Builtin.zeroCells z.cells (l.length - i)).toList.length = (l.length - i) * E.sz := by rw [Array.length_toList, zeroCells_size, hzs]
    have hfit : i * E.sz + 0 + (Builtin.zeroCells z.cells (l.length - i)).toList.length ≤ cur.size := by
      rw [hvl, hcs, Nat.add_zero, ← Nat.add_mul]
      exact Nat.mul_le_mul_right _ (by omega)
    have hst := run_storeCells_at (P := P) g (i * E.sz) e (Builtin.zeroCells z.cells (l.length - i)).toList 0 cur w hg hfit (zeroCells_one _ _ hz1)
    obtain ⟨m, hm⟩ : ∃ m, l.length - i = m + 1 := ⟨l.length - i - 1, by omega⟩
    refine ⟨w.setRow g (cur.toList.take (i * E.sz + 0) ++ (Builtin.zeroCells z.cells (l.length - i)).toList ++ cur.toList.drop (i * E.sz + 0 + (Builtin.zeroCells z.cells (l.length - i)).toList.length)).toArray, ?_, ?_, ?_⟩
    · rw [hm] at hst ⊢
      simp only [Builtin.clear_, run_underlying ht, hv, hst, Sem.run_bind, Sem.run_pure, Result.andThen_ok, List.getElem?_toArray, List.getElem?_cons_zero]
    · unfold Own
      have hlt : (l.take i).length = i := by rw [List.length_take]; omega
      rw [hlt]
      refine ⟨by rw [E.cells_length, hlt], .inr ⟨g, c, _, rfl, hb, setRow_heap w g cur _ e (0, 0) hg, by omega, hcm, ?_, ?_⟩⟩
      · have hcl : cur.toList.length = c * E.sz := by rw [Array.length_toList, hcs]
        simp only [List.size_toArray, List.length_append, List.length_take, List.length_drop, hcl]
        rw [hcs] at hfit
        omega
      · simp only [Nat.add_zero, List.append_assoc]
        have hle : i * E.sz ≤ cur.toList.length := by
          rw [Array.length_toList, hcs]
          exact Nat.mul_le_mul_right _ (by omega)
        rw [List.take_append_of_le_length (by rw [List.length_take]; omega), List.take_of_length_le (by rw [List.length_take]; omega)]
        rw [← E.cells_take l i (by omega), ← htake, List.take_take]
        congr 1
        have : i * E.sz ≤ l.length * E.sz := Nat.mul_le_mul_right _ (by omega)
        omega
    · exact ⟨rfl, rfl, rfl, by simp, fun k _ hk => setRow_other w g k _ hk⟩

theorem wpList_clear (hgd : o.guard = none) (s : Operand) (t : TypeId) (ho : o.op = .call { callee := .builtin .clear, args := #[s], argTypes := #[t] })
    {z : Value} (ht : P.underlying t = some (.slice e)) (hv : ∀ w, (zeroValue e).run P w = .ok z w) (hzs : z.cells.size = E.sz) (hz1 : ∀ u ∈ z.cells.toList, u.oneCell' = true)
    {g n c : Nat} (h : Own E e base w (.slice (some ⟨g, 0, none⟩) n c) l) (i d : Nat) (hi : i < n) (hs : a.eval s = .slice (some ⟨g, i * E.sz, none⟩) (n - i) d)
    (hK : ∀ w', Own E e base w' (.slice (some ⟨g, 0, none⟩) i c) (l.take i) → Fr (fun k => k = g) w w' → wpList P ops Q rest (a.put o.dst (.tuple #[])) w') :
    wpList P ops Q (o :: rest) a w := by
  obtain ⟨w', hr, h1, h2⟩ := run_clear_own (P := P) (ty := o.type) ht hv hzs hz1 h i d hi
  refine wpList_plain hgd fun K' hK' => ?_
  unfold Oper.wp execOp
  simp only [ho, resolve, invoke, builtin, Sem.run_bind, Sem.run_pure, Result.andThen_ok, List.map_toArray, List.map_cons, List.map_nil, hs, hr]
  exact hK' _ _ (hK w' h1 h2)

/-- append(nil, make([]T, n)...): an empty row with room behind a cut to length 0. -/
theorem run_grow_nil (w : World) (t tn ty : TypeId) {i : TypeInfo} {z : Value} {bytes : Nat} (ht : P.underlying t = some (.slice e)) (htn : P.underlying tn = some (.int .i64)) (hi : P.info? e = some i) (hz : i.zero = some z)
    (hsize : i.size = E.sz) (hby : i.bytes = bytes) (hzs : z.cells.size = E.sz) (n : Nat) (h0 : 0 < n) (hn : n ≤ 1000000) (hb : bytes ≤ 1000) (hbase : base ≤ w.heap.size) :
    ∃ w' c, (Builtin.append_ #[t, tn] ty #[.slice none 0 0, .int .i64 n]).run P w = .ok (.slice (some ⟨w.heap.size, 0, none⟩) n c) w' ∧ n ≤ c ∧ c ≤ maxLen ∧ Own E e base w' (.slice (some ⟨w.heap.size, 0, none⟩) 0 c) [] ∧ New w w' := by
  have hold : (Builtin.firstCells i.size 0 (.slice none 0 0)).run P w.drew = .ok ([] : List Value).toArray w.drew := run_firstCells_none _ _ _ _ _
  have hnx : Builtin.nextslicecap (0 + n) 0 = n := by unfold Builtin.nextslicecap; rw [if_pos (by omega), Nat.zero_add]
  have hmul : n * i.bytes ≤ 1000000 * 1000 := Nat.mul_le_mul hn (by omega)
  have h := Lib.run_append_grow_zeros w t tn ty e i z .i64 .i64 ht htn hi hz none 0 0 [] hold n h0 (by rw [hsize]; exact E.pos) (by omega) (by omega) (by omega) (by rw [hnx]; omega)
  rw [Nat.zero_add] at h
  have hge := grownCap_ge w n 0 e
  have hle := grownCap_le_maxLen w n 0 e (by unfold maxLen; omega)
  refine ⟨_, _, h, hge, hle, ?_, ((New.refl w).drew).alloc _⟩
  unfold Own
  refine World.ownsRow_made (base := base) (e := e) (size := E.sz) w.drew _ _ hbase hle ?_
  rw [Array.size_append, Array.size_append, zeroCells_size, zeroCells_size, hzs, Nat.add_assoc, ← Nat.add_mul]
  have : n + (grownCap w n 0 e - n) = grownCap w n 0 e := by omega
  rw [this]
  simp
end

end Go.Proofs.Ytjnaihhkbbeaoaa
