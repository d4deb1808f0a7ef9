/- A store into a map as a step of a region that draws its order. Plain lemmas; of no program. -/
import Derived.Test.YtjnaihhkbbeaoaaMaps
namespace Go.Proofs.Ytjnaihhkbbeaoaa
open Go.RowKit Go.Maps

section
variable {P : Program} {K : TypeId} {α : Type} [DecidableEq α] {E : KeyEnc P K α} {w : World} {b : Nat} {l : List (α × Value)}
variable {ops : Array Oper} {rest : List Oper} {o : Oper} {a : Act} {Q : Exit → Act → World → Prop} {C : Act → World → Prop}

theorem step_put {F : Prop} (hg : o.guard = none) (m x v : Operand) (t e : TypeId) (hop : o.op = Op.mapUpdate t m x v) (ht : P.underlying t = some (.map K e))
    (h : HasMap E w b l) (hn : l.length < maxLen) (k : α) (hk : E.ok k) (u : Value) (hm : a.eval m = .map (some b)) (hx : a.eval x = E.kv k) (hv : a.eval v = u)
    (hK : ∀ w', HasMap E w' b (put l k u) → One b w w' → C (a.put o.dst undef) w') :
    if Region.wanted o (yielded ops a.tmps) = true then Oper.wp P o a w C Q else F := by
  have hw : Region.wanted o (yielded ops a.tmps) = true := by simp [Region.wanted, hg]
  rw [if_pos hw]
  obtain ⟨w', hr, h1, h2⟩ := h.run_put ht hn hk u
  unfold Oper.wp
  simp [execOp, hop, hm, hx, hv, hr, Result.andThen]
  exact hK w' h1 h2
end

end Go.Proofs.Ytjnaihhkbbeaoaa
