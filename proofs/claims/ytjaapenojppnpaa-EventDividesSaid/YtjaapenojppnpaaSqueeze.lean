/- Squeeze computes squeezing: the map of last places, and the loop that keeps. -/
import Derived.Test.YtjaapenojppnpaaSqueezeP
import Derived.Test.YtjaapenojppnpaaSplit
import Derived.Test.YtjaapenojppnpaaMaps
import Derived.DeepKeys4
import Derived.KernelRfl
import Derived.ProofKit
import Derived.Lib.SmallJoins
import Derived.MapViews
namespace Go.Proofs.Ytjaapenojppnpaa
open Go.RowKit Go.Maps

theorem laidOutP : laidOutB Try.prog = true := by kernel_rfl
theorem keyRow : 57 < Try.prog.types.size := of_decide_eq_true (by kernel_rfl)
theorem keyCells : Try.prog.cellsOf 57 = 2 := by kernel_rfl
theorem cellsInt : Try.prog.cellsOf 3 = 1 := by kernel_rfl
theorem cellsU32 : Try.prog.cellsOf 26 = 1 := by kernel_rfl
theorem keyLaw : Keyed Try.prog 57 := Keyed.of_law (deep_law_laid laidOutP (m := 2) (by omega) keyRow (by kernel_rfl) (by kernel_rfl))
theorem keyT : Try.prog.keyType 57 = true := by kernel_rfl

theorem keyFormed (a b : Int) : Value.formed Try.prog 57 (.agg #[.int .i64 a, .int .u32 b]) = true := by
  simp [Value.formed, Try.underlying57, keyCells]
theorem keyWide : (match Try.prog.underlying 57 with | some (.array _ _) | some (.struct _) => true | _ => false) = true := by rw [Try.underlying57]

/-- The keys of the map: a kind and an identifier. -/
def evKeys : KeyEnc Try.prog 57 (Int × Int) where
  law := keyLaw
  kv := fun p => .agg #[.int .i64 p.1, .int .u32 p.2]
  kl := fun p => (DataW.agg [.lit (.int .i64 p.1), .lit (.int .u32 p.2)] : DataW Value).asKey
  ok := fun p => (Lit.int .i64 p.1).wf = true ∧ (Lit.int .u32 p.2).wf = true
  key := fun p h => (keyOf_asKey (H := Value) (enc := fun q => q.2) (w := default) (base := 0) (sp := fun _ => true) (held := true) keyT keyWide (keyFormed p.1 p.2)
    (Go.Joins.shut_agg2 (y0 := (.lit (.int .i64 p.1), [])) (y1 := (.lit (.int .u32 p.2), [])) Try.underlying57 (by kernel_rfl) keyCells ⟨1, by simp [DataW.trod, Try.underlying3, h.1]⟩ ⟨1, by simp [DataW.trod, Try.underlying26, h.2]⟩)).1
  inj := fun a b h => by
    injection h with h
    simp only [Array.mk.injEq, List.cons.injEq, Value.int.injEq, true_and, and_true] at h
    exact Prod.ext h.1 h.2

end Go.Proofs.Ytjaapenojppnpaa
