/- append of any slice that reads, as a step of a region that draws its order. Plain lemmas; of no program. -/
import Derived.Test.YtjnaihhkbbeaoaaRws
namespace Go.Proofs.Ytjnaihhkbbeaoaa
open Go.RowKit

section
variable {P : Program} {α : Type} {E : Elem α} {e : TypeId} {base : Nat} {w : World} {v : Value} {l : List α}
variable {ops : Array Oper} {rest : List Oper} {o : Oper} {a : Act} {Q : Exit → Act → World → Prop} {K : Act → World → Prop}

theorem step_append_list {F : Prop} (hgd : o.guard = none) (s x : Operand) (t : TypeId) (ho : o.op = .call { callee := .builtin .append, args := #[s, x], argTypes := #[t, t] })
    {i : TypeInfo} {z : Value} {bytes : Nat} (ht : P.underlying t = some (.slice e)) (hi : P.info? e = some i) (hz : i.zero = some z)
    (hsize : i.size = E.sz) (hby : i.bytes = bytes) (hzs : z.cells.size = E.sz)
    (hs : a.eval s = v) {u : Value} (hx : a.eval x = u) (m : List α) (h : Own E e base w v l) (hu : Rd E w u m)
    (h63 : l.length + m.length ≤ maxLen) (hbytes : (l.length + m.length) * bytes ≤ 140737488355328) (hbase : base ≤ w.heap.size)
    (hK : ∀ A c w', Own E e base w' (.slice A (l ++ m).length c) (l ++ m) → Fr (fun k => v.ownBlock = some k) w w' → (Value.ownBlock (.slice A (l ++ m).length c) = v.ownBlock ∨ Value.ownBlock (.slice A (l ++ m).length c) = some w.heap.size) → K (a.put o.dst (.slice A (l ++ m).length c)) w') :
    if Region.wanted o (yielded ops a.tmps) = true then Oper.wp P o a w K Q else F := by
  have hw : Region.wanted o (yielded ops a.tmps) = true := by simp [Region.wanted, hgd]
  rw [if_pos hw]
  obtain ⟨v', w', hr, h1, h2, h3⟩ := run_append_list (P := P) t o.type ht hi hz hsize hby hzs h hu h63 hbytes hbase
  obtain ⟨A, c, rfl, _⟩ := h1.form
  unfold Oper.wp execOp
  simp only [ho, resolve, invoke, builtin, Sem.run_bind, Sem.run_pure, Result.andThen_ok, List.map_toArray, List.map_cons, List.map_nil, hs, hx, hr]
  exact hK A c w' h1 h2 h3

/-- .. where the row that is appended to is new to an earlier world w0: so is what comes of it. -/
theorem step_append_new {F : Prop} (w0 : World) (hgd : o.guard = none) (s x : Operand) (t : TypeId) (ho : o.op = .call { callee := .builtin .append, args := #[s, x], argTypes := #[t, t] })
    {i : TypeInfo} {z : Value} {bytes : Nat} (ht : P.underlying t = some (.slice e)) (hi : P.info? e = some i) (hz : i.zero = some z)
    (hsize : i.size = E.sz) (hby : i.bytes = bytes) (hzs : z.cells.size = E.sz)
    (hs : a.eval s = v) {u : Value} (hx : a.eval x = u) (m : List α) (h : Own E e w0.heap.size w v l) (hu : Rd E w u m)
    (h63 : l.length + m.length ≤ maxLen) (hbytes : (l.length + m.length) * bytes ≤ 140737488355328) (hn : New w0 w) (r : List α) (hr : l ++ m = r)
    (hK : ∀ A c w', Own E e w0.heap.size w' (.slice A r.length c) r → New w0 w' → Hid (Fr (fun k => v.ownBlock = some k) w w') → K (a.put o.dst (.slice A r.length c)) w') :
    if Region.wanted o (yielded ops a.tmps) = true then Oper.wp P o a w K Q else F := by
  subst hr
  exact step_append_list hgd s x t ho ht hi hz hsize hby hzs hs hx m h hu h63 hbytes hn.size fun A c w' h1 h2 _ => hK A c w' h1 (New.append hn h h2) h2
end

/-- The first k of a slice that reads. -/
theorem Rd.take {α : Type} {E : Elem α} {w : World} {A : Option Addr} {n c : Nat} {l : List α} (h : Rd E w (.slice A n c) l) {k : Nat} (hk : k ≤ l.length) : Rd E w (.slice A k c) (l.take k) := by
  obtain ⟨A', c', he, hc, hcells⟩ := h
  cases he
  have hl : (l.take k).length = k := by rw [List.length_take]; omega
  refine ⟨A, c, by rw [hl], by omega, fun hne => ?_⟩
  obtain ⟨b, off, rfl, hcell⟩ := hcells (by rintro rfl; simp at hne)
  refine ⟨b, off, rfl, fun i x hx j u hu => hcell i x ?_ j u hu⟩
  have hi : i < k := by have := (List.getElem?_eq_some_iff.1 hx).1; omega
  rwa [List.getElem?_take_of_lt hi] at hx
/-- What stands from place k on. -/
theorem Rd.drop {α : Type} {E : Elem α} {w : World} {b off n c : Nat} {l : List α} (h : Rd E w (.slice (some ⟨b, off, none⟩) n c) l) {k : Nat} (hk : k ≤ l.length) (c' : Nat) (hc' : l.length - k ≤ c') : Rd E w (.slice (some ⟨b, off + k * E.sz, none⟩) (n - k) c') (l.drop k) := by
  obtain ⟨A', c0, he, hc, hcells⟩ := h
  cases he
  have hl : (l.drop k).length = l.length - k := List.length_drop
  refine ⟨_, c', by rw [hl], by omega, fun hne => ?_⟩
  obtain ⟨b', off', he, hcell⟩ := hcells (by rintro rfl; simp at hne)
  cases he
  refine ⟨_, _, rfl, fun i x hx j u hu => ?_⟩
  rw [List.getElem?_drop] at hx
  have := hcell (k + i) x hx j u hu
  rw [Nat.add_mul] at this
  rwa [show off + k * E.sz + (i * E.sz + j) = off + (k * E.sz + i * E.sz + j) by omega]

end Go.Proofs.Ytjnaihhkbbeaoaa
