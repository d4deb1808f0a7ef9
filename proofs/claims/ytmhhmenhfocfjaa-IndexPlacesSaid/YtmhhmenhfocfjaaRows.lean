/-
  No cell of these rows narrows 'for every input' (looked for: loops, veiled, ifaces, maps, wideKeys, modest, calm, conditions, laid).
  DERIVED. THE GIVEN ROWS OF THIS SEAT. 5 by the template 'for every input the law returns true; each argument reads behind the call as it read before'; 0 by the template 'total and deterministic' (their statements: YtmhhmenhfocfjaaTotals.lean).
  GIVEN WITH THE SEED: the statements are not yours to turn. If you find one false, say at which input.
  Laid BY PROGRAM, IN A SANDBOX (cutbox-rows.mjs): the forced cells as the released guide's own fill.sh prints them over the translation e345113c3a6492ba… (all of the seat's roots in one cut). By AI agents, Wed Nov 11 2026. No macro, syntax, notation, axiom, sorry.
-/
import Derived.Test.YtmhhmenhfocfjaaChecked
import GoSem.Claim
import GoSem.ClaimJoined
import GoSem.ClaimMapViews
import Derived.JoinedTies
import Derived.KernelRfl
namespace Go.Proofs.Ytmhhmenhfocfjaa
/- THE CELL 'sum', in the pinned program and in every row, IS THE sha256 OF THE DUMP (.gsa) THAT YtmhhmenhfocfjaaProg.lean LOADS. Nothing in Lean hashes anything: it is a label: what it is worth is what the hold of that sum in a sandbox is worth. -/
noncomputable def Try.pinned : Pinned := { name := "ytmhhmenhfocfjaa", sum := "e345113c3a6492ba8efa295188636f879d6302ea08332150ce8e0923d9f64046", checked := Try.checked }
namespace Rows
def none {H : Type} : Left H := { results := [], args := [] }

/-- 'cubbyholelaw12.IndexRemoves': WHATEVER THE INPUT: true; the input reads as it did. -/
def indexRemovesSpec : ChangeSpec := { name := "indexRemoves", fn := fun _ => fun
  | [d1, d2] => { results := [.lit (.bool true)], args := [d1, d2] }
  | _ => none }
def indexRemovesRow : OpenClaim := { program := "ytmhhmenhfocfjaa", sum := "e345113c3a6492ba8efa295188636f879d6302ea08332150ce8e0923d9f64046", func := "cubbyhole/cubbyholelaw12.IndexRemoves", spec := "indexRemoves", unfollowed := true, recurses := true, apart := false }
def IndexRemovesSaid : Prop := indexRemovesRow.holds Try.pinned (OpenSpec.ofChange indexRemovesSpec)

/-- ITS FALSE NEIGHBOUR: 'it returns false'. Refute it at one input. -/
def indexRemovesWrong : ChangeSpec := { name := "indexRemoves", fn := fun _ => fun
  | [d1, d2] => { results := [.lit (.bool false)], args := [d1, d2] }
  | _ => none }
def IndexRemovesWrongFalsely : Prop := indexRemovesRow.holds Try.pinned (OpenSpec.ofChange indexRemovesWrong)

/-- 'cubbyholelaw12.IndexPlaces': WHATEVER THE INPUT: true; the input reads as it did. -/
def indexPlacesSpec : ChangeSpec := { name := "indexPlaces", fn := fun _ => fun
  | [d1, d2, d3] => { results := [.lit (.bool true)], args := [d1, d2, d3] }
  | _ => none }
def indexPlacesRow : OpenClaim := { program := "ytmhhmenhfocfjaa", sum := "e345113c3a6492ba8efa295188636f879d6302ea08332150ce8e0923d9f64046", func := "cubbyhole/cubbyholelaw12.IndexPlaces", spec := "indexPlaces", unfollowed := true, recurses := true, apart := false }
def IndexPlacesSaid : Prop := indexPlacesRow.holds Try.pinned (OpenSpec.ofChange indexPlacesSpec)

/-- ITS FALSE NEIGHBOUR: 'it returns false'. Refute it at one input. -/
def indexPlacesWrong : ChangeSpec := { name := "indexPlaces", fn := fun _ => fun
  | [d1, d2, d3] => { results := [.lit (.bool false)], args := [d1, d2, d3] }
  | _ => none }
def IndexPlacesWrongFalsely : Prop := indexPlacesRow.holds Try.pinned (OpenSpec.ofChange indexPlacesWrong)

/-- 'cubbyholelaw12.IndexPlays': WHATEVER THE INPUT: true; the input reads as it did. -/
def indexPlaysSpec : ChangeSpec := { name := "indexPlays", fn := fun _ => fun
  | [d1, d2] => { results := [.lit (.bool true)], args := [d1, d2] }
  | _ => none }
def indexPlaysRow : OpenClaim := { program := "ytmhhmenhfocfjaa", sum := "e345113c3a6492ba8efa295188636f879d6302ea08332150ce8e0923d9f64046", func := "cubbyhole/cubbyholelaw12.IndexPlays", spec := "indexPlays", unfollowed := true, recurses := true, apart := false }
def IndexPlaysSaid : Prop := indexPlaysRow.holds Try.pinned (OpenSpec.ofChange indexPlaysSpec)

/-- ITS FALSE NEIGHBOUR: 'it returns false'. Refute it at one input. -/
def indexPlaysWrong : ChangeSpec := { name := "indexPlays", fn := fun _ => fun
  | [d1, d2] => { results := [.lit (.bool false)], args := [d1, d2] }
  | _ => none }
def IndexPlaysWrongFalsely : Prop := indexPlaysRow.holds Try.pinned (OpenSpec.ofChange indexPlaysWrong)

/-- 'cubbyholelaw12.IndexBetween': WHATEVER THE INPUT: true; the input reads as it did. -/
def indexBetweenSpec : ChangeSpec := { name := "indexBetween", fn := fun _ => fun
  | [d1, d2, d3] => { results := [.lit (.bool true)], args := [d1, d2, d3] }
  | _ => none }
def indexBetweenRow : OpenClaim := { program := "ytmhhmenhfocfjaa", sum := "e345113c3a6492ba8efa295188636f879d6302ea08332150ce8e0923d9f64046", func := "cubbyhole/cubbyholelaw12.IndexBetween", spec := "indexBetween", unfollowed := true, recurses := true, apart := false }
def IndexBetweenSaid : Prop := indexBetweenRow.holds Try.pinned (OpenSpec.ofChange indexBetweenSpec)

/-- ITS FALSE NEIGHBOUR: 'it returns false'. Refute it at one input. -/
def indexBetweenWrong : ChangeSpec := { name := "indexBetween", fn := fun _ => fun
  | [d1, d2, d3] => { results := [.lit (.bool false)], args := [d1, d2, d3] }
  | _ => none }
def IndexBetweenWrongFalsely : Prop := indexBetweenRow.holds Try.pinned (OpenSpec.ofChange indexBetweenWrong)

/-- 'cubbyholelaw12.IndexKeeps': WHATEVER THE INPUT: true; the input reads as it did. -/
def indexKeepsSpec : ChangeSpec := { name := "indexKeeps", fn := fun _ => fun
  | [d] => { results := [.lit (.bool true)], args := [d] }
  | _ => none }
def indexKeepsRow : OpenClaim := { program := "ytmhhmenhfocfjaa", sum := "e345113c3a6492ba8efa295188636f879d6302ea08332150ce8e0923d9f64046", func := "cubbyhole/cubbyholelaw12.IndexKeeps", spec := "indexKeeps", unfollowed := true, recurses := true, apart := false }
def IndexKeepsSaid : Prop := indexKeepsRow.holds Try.pinned (OpenSpec.ofChange indexKeepsSpec)

/-- ITS FALSE NEIGHBOUR: 'it returns false'. Refute it at one input. -/
def indexKeepsWrong : ChangeSpec := { name := "indexKeeps", fn := fun _ => fun
  | [d] => { results := [.lit (.bool false)], args := [d] }
  | _ => none }
def IndexKeepsWrongFalsely : Prop := indexKeepsRow.holds Try.pinned (OpenSpec.ofChange indexKeepsWrong)

/- THE SECOND FORM. 'bulk': how many values and letters a reading holds, each counted each time it is reached (what is shared counts as often as it is met; a slice's spare places count too). A statement '..UptoSaid' is the law's where the arguments, and the package variables that the reading takes, are together of bulk at most 1048576: NARROWER than '..Said'. Prove '..Said' where nothing that the law and all that it calls make is longer than what came in: it says more and counts as full. Else prove '..UptoSaid'. A law counts once. -/
mutual
def uptoBulk {H : Type} : DataW H → Nat
  | .lit (.string bytes) => bytes.length + 1
  | .lit _ => 1
  | .nil => 1
  | .ptr d => uptoBulk d + 1
  | .slice elems spare => uptoBulkAll elems + uptoBulkAll spare + 1
  | .agg parts => uptoBulkAll parts + 1
  | .iface _ d => uptoBulk d + 1
  | .map entries => uptoBulkEntries entries + 1
  | .held _ => 1
def uptoBulkAll {H : Type} : List (DataW H) → Nat
  | [] => 0
  | d :: r => uptoBulk d + uptoBulkAll r
def uptoBulkEntries {H : Type} : List (Lit × DataW H) → Nat
  | [] => 0
  | x :: r => uptoBulkEntry x + uptoBulkEntries r
def uptoBulkEntry {H : Type} : Lit × DataW H → Nat
  | (.string bytes, d) => bytes.length + uptoBulk d + 1
  | (_, d) => uptoBulk d + 1
 end
def uptoSmall : (H : Type) → List (DataW H) → Bool := fun _ ds => decide (uptoBulkAll ds ≤ 1048576)
def OpenSpec.upto (s : _root_.Go.ChangeSpec) : _root_.Go.OpenSpec := { _root_.Go.OpenSpec.ofChange s with cond := some uptoSmall }

/-- 'cubbyholelaw12.IndexRemoves', WHERE WHAT IT READS IS OF BULK AT MOST 1048576: true; the input reads as it did. -/
def indexRemovesUptoRow : OpenClaim := { program := "ytmhhmenhfocfjaa", sum := "e345113c3a6492ba8efa295188636f879d6302ea08332150ce8e0923d9f64046", func := "cubbyhole/cubbyholelaw12.IndexRemoves", spec := "indexRemoves", unfollowed := true, recurses := true, apart := false, narrowed := true }
def IndexRemovesUptoSaid : Prop := indexRemovesUptoRow.holds Try.pinned (OpenSpec.upto indexRemovesSpec)

/-- 'cubbyholelaw12.IndexPlaces', WHERE WHAT IT READS IS OF BULK AT MOST 1048576: true; the input reads as it did. -/
def indexPlacesUptoRow : OpenClaim := { program := "ytmhhmenhfocfjaa", sum := "e345113c3a6492ba8efa295188636f879d6302ea08332150ce8e0923d9f64046", func := "cubbyhole/cubbyholelaw12.IndexPlaces", spec := "indexPlaces", unfollowed := true, recurses := true, apart := false, narrowed := true }
def IndexPlacesUptoSaid : Prop := indexPlacesUptoRow.holds Try.pinned (OpenSpec.upto indexPlacesSpec)

/-- 'cubbyholelaw12.IndexPlays', WHERE WHAT IT READS IS OF BULK AT MOST 1048576: true; the input reads as it did. -/
def indexPlaysUptoRow : OpenClaim := { program := "ytmhhmenhfocfjaa", sum := "e345113c3a6492ba8efa295188636f879d6302ea08332150ce8e0923d9f64046", func := "cubbyhole/cubbyholelaw12.IndexPlays", spec := "indexPlays", unfollowed := true, recurses := true, apart := false, narrowed := true }
def IndexPlaysUptoSaid : Prop := indexPlaysUptoRow.holds Try.pinned (OpenSpec.upto indexPlaysSpec)

/-- 'cubbyholelaw12.IndexBetween', WHERE WHAT IT READS IS OF BULK AT MOST 1048576: true; the input reads as it did. -/
def indexBetweenUptoRow : OpenClaim := { program := "ytmhhmenhfocfjaa", sum := "e345113c3a6492ba8efa295188636f879d6302ea08332150ce8e0923d9f64046", func := "cubbyhole/cubbyholelaw12.IndexBetween", spec := "indexBetween", unfollowed := true, recurses := true, apart := false, narrowed := true }
def IndexBetweenUptoSaid : Prop := indexBetweenUptoRow.holds Try.pinned (OpenSpec.upto indexBetweenSpec)

/-- 'cubbyholelaw12.IndexKeeps', WHERE WHAT IT READS IS OF BULK AT MOST 1048576: true; the input reads as it did. -/
def indexKeepsUptoRow : OpenClaim := { program := "ytmhhmenhfocfjaa", sum := "e345113c3a6492ba8efa295188636f879d6302ea08332150ce8e0923d9f64046", func := "cubbyhole/cubbyholelaw12.IndexKeeps", spec := "indexKeeps", unfollowed := true, recurses := true, apart := false, narrowed := true }
def IndexKeepsUptoSaid : Prop := indexKeepsUptoRow.holds Try.pinned (OpenSpec.upto indexKeepsSpec)

end Rows
end Go.Proofs.Ytmhhmenhfocfjaa
