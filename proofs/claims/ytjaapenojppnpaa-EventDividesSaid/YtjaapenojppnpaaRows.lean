/-
  No cell of these rows narrows 'for every input' (looked for: loops, veiled, ifaces, maps, wideKeys, modest, calm, conditions, laid).
  DERIVED. THE GIVEN ROWS OF THIS SEAT. 6 by the template 'for every input the law returns true; each argument reads behind the call as it read before'; 0 by the template 'total and deterministic' (their statements: YtjaapenojppnpaaTotals.lean).
  GIVEN WITH THE SEED: the statements are not yours to turn. If you find one false, say at which input.
  Laid BY PROGRAM, IN A SANDBOX (cutbox-rows.mjs): the forced cells as the released guide's own fill.sh prints them over the translation ee56b9777dfdadb7… (all of the seat's roots in one cut). By AI agents, Wed Nov 11 2026. No macro, syntax, notation, axiom, sorry.
-/
import Derived.Test.YtjaapenojppnpaaChecked
import GoSem.Claim
import GoSem.ClaimJoined
import GoSem.ClaimMapViews
import Derived.JoinedTies
import Derived.KernelRfl
namespace Go.Proofs.Ytjaapenojppnpaa
/- THE CELL 'sum', in the pinned program and in every row, IS THE sha256 OF THE DUMP (.gsa) THAT YtjaapenojppnpaaProg.lean LOADS. Nothing in Lean hashes anything: it is a label: what it is worth is what the hold of that sum in a sandbox is worth. -/
noncomputable def Try.pinned : Pinned := { name := "ytjaapenojppnpaa", sum := "ee56b9777dfdadb7a7d3eb0c8729d62e373aad0f136dba7405ab264f94795130", checked := Try.checked }
namespace Rows
def none {H : Type} : Left H := { results := [], args := [] }

/-- 'cubbyholelaw15.EventSqueezes': WHATEVER THE INPUT: true; the input reads as it did. -/
def eventSqueezesSpec : ChangeSpec := { name := "eventSqueezes", fn := fun _ => fun
  | [d] => { results := [.lit (.bool true)], args := [d] }
  | _ => none }
def eventSqueezesRow : OpenClaim := { program := "ytjaapenojppnpaa", sum := "ee56b9777dfdadb7a7d3eb0c8729d62e373aad0f136dba7405ab264f94795130", func := "cubbyhole/cubbyholelaw15.EventSqueezes", spec := "eventSqueezes", unfollowed := true, recurses := true, plainKeys := false, apart := false }
def EventSqueezesSaid : Prop := eventSqueezesRow.holds Try.pinned (OpenSpec.ofChange eventSqueezesSpec)

/-- ITS FALSE NEIGHBOUR: 'it returns false'. Refute it at one input. -/
def eventSqueezesWrong : ChangeSpec := { name := "eventSqueezes", fn := fun _ => fun
  | [d] => { results := [.lit (.bool false)], args := [d] }
  | _ => none }
def EventSqueezesWrongFalsely : Prop := eventSqueezesRow.holds Try.pinned (OpenSpec.ofChange eventSqueezesWrong)

/-- 'cubbyholelaw15.EventLast': WHATEVER THE INPUT: true; the input reads as it did. -/
def eventLastSpec : ChangeSpec := { name := "eventLast", fn := fun _ => fun
  | [d1, d2] => { results := [.lit (.bool true)], args := [d1, d2] }
  | _ => none }
def eventLastRow : OpenClaim := { program := "ytjaapenojppnpaa", sum := "ee56b9777dfdadb7a7d3eb0c8729d62e373aad0f136dba7405ab264f94795130", func := "cubbyhole/cubbyholelaw15.EventLast", spec := "eventLast", unfollowed := true, recurses := true, plainKeys := false, apart := false }
def EventLastSaid : Prop := eventLastRow.holds Try.pinned (OpenSpec.ofChange eventLastSpec)

/-- ITS FALSE NEIGHBOUR: 'it returns false'. Refute it at one input. -/
def eventLastWrong : ChangeSpec := { name := "eventLast", fn := fun _ => fun
  | [d1, d2] => { results := [.lit (.bool false)], args := [d1, d2] }
  | _ => none }
def EventLastWrongFalsely : Prop := eventLastRow.holds Try.pinned (OpenSpec.ofChange eventLastWrong)

/-- 'cubbyholelaw15.EventNames': WHATEVER THE INPUT: true; the input reads as it did. -/
def eventNamesSpec : ChangeSpec := { name := "eventNames", fn := fun _ => fun
  | [d] => { results := [.lit (.bool true)], args := [d] }
  | _ => none }
def eventNamesRow : OpenClaim := { program := "ytjaapenojppnpaa", sum := "ee56b9777dfdadb7a7d3eb0c8729d62e373aad0f136dba7405ab264f94795130", func := "cubbyhole/cubbyholelaw15.EventNames", spec := "eventNames", unfollowed := true, recurses := true, plainKeys := false, apart := false }
def EventNamesSaid : Prop := eventNamesRow.holds Try.pinned (OpenSpec.ofChange eventNamesSpec)

/-- ITS FALSE NEIGHBOUR: 'it returns false'. Refute it at one input. -/
def eventNamesWrong : ChangeSpec := { name := "eventNames", fn := fun _ => fun
  | [d] => { results := [.lit (.bool false)], args := [d] }
  | _ => none }
def EventNamesWrongFalsely : Prop := eventNamesRow.holds Try.pinned (OpenSpec.ofChange eventNamesWrong)

/-- 'cubbyholelaw15.EventPlays': WHATEVER THE INPUT: true; the input reads as it did. -/
def eventPlaysSpec : ChangeSpec := { name := "eventPlays", fn := fun _ => fun
  | [d1, d2] => { results := [.lit (.bool true)], args := [d1, d2] }
  | _ => none }
def eventPlaysRow : OpenClaim := { program := "ytjaapenojppnpaa", sum := "ee56b9777dfdadb7a7d3eb0c8729d62e373aad0f136dba7405ab264f94795130", func := "cubbyhole/cubbyholelaw15.EventPlays", spec := "eventPlays", unfollowed := true, recurses := true, plainKeys := false, apart := false }
def EventPlaysSaid : Prop := eventPlaysRow.holds Try.pinned (OpenSpec.ofChange eventPlaysSpec)

/-- ITS FALSE NEIGHBOUR: 'it returns false'. Refute it at one input. -/
def eventPlaysWrong : ChangeSpec := { name := "eventPlays", fn := fun _ => fun
  | [d1, d2] => { results := [.lit (.bool false)], args := [d1, d2] }
  | _ => none }
def EventPlaysWrongFalsely : Prop := eventPlaysRow.holds Try.pinned (OpenSpec.ofChange eventPlaysWrong)

/-- 'cubbyholelaw15.EventKeeps': WHATEVER THE INPUT: true; the input reads as it did. -/
def eventKeepsSpec : ChangeSpec := { name := "eventKeeps", fn := fun _ => fun
  | [d] => { results := [.lit (.bool true)], args := [d] }
  | _ => none }
def eventKeepsRow : OpenClaim := { program := "ytjaapenojppnpaa", sum := "ee56b9777dfdadb7a7d3eb0c8729d62e373aad0f136dba7405ab264f94795130", func := "cubbyhole/cubbyholelaw15.EventKeeps", spec := "eventKeeps", unfollowed := true, recurses := true, plainKeys := false, apart := false }
def EventKeepsSaid : Prop := eventKeepsRow.holds Try.pinned (OpenSpec.ofChange eventKeepsSpec)

/-- ITS FALSE NEIGHBOUR: 'it returns false'. Refute it at one input. -/
def eventKeepsWrong : ChangeSpec := { name := "eventKeeps", fn := fun _ => fun
  | [d] => { results := [.lit (.bool false)], args := [d] }
  | _ => none }
def EventKeepsWrongFalsely : Prop := eventKeepsRow.holds Try.pinned (OpenSpec.ofChange eventKeepsWrong)

/-- 'cubbyholelaw15.EventDivides': WHATEVER THE INPUT: true; the input reads as it did. -/
def eventDividesSpec : ChangeSpec := { name := "eventDivides", fn := fun _ => fun
  | [d] => { results := [.lit (.bool true)], args := [d] }
  | _ => none }
def eventDividesRow : OpenClaim := { program := "ytjaapenojppnpaa", sum := "ee56b9777dfdadb7a7d3eb0c8729d62e373aad0f136dba7405ab264f94795130", func := "cubbyhole/cubbyholelaw15.EventDivides", spec := "eventDivides", unfollowed := true, recurses := true, plainKeys := false, apart := false }
def EventDividesSaid : Prop := eventDividesRow.holds Try.pinned (OpenSpec.ofChange eventDividesSpec)

/-- ITS FALSE NEIGHBOUR: 'it returns false'. Refute it at one input. -/
def eventDividesWrong : ChangeSpec := { name := "eventDivides", fn := fun _ => fun
  | [d] => { results := [.lit (.bool false)], args := [d] }
  | _ => none }
def EventDividesWrongFalsely : Prop := eventDividesRow.holds Try.pinned (OpenSpec.ofChange eventDividesWrong)

/- THE SECOND FORM. 'bulk': how many values and letters a reading holds, each counted each time it is reached (what is shared counts as often as it is met; a slice's spare places count too). A statement '..UptoSaid' is the law's where the arguments, and the package variables that the reading takes, are together of bulk at most 1048576: NARROWER than '..Said'. Prove '..Said' where nothing that the law and all that it calls make is longer than what came in: it says more and counts as full. Else prove '..UptoSaid'. A law counts once. -/
mutual
def uptoBulk {H : Type} : DataW H → Nat
  | .lit (.string bytes) => bytes.length + 1
  | .lit _ => 1
  | .nil => 1
  | .ptr d => uptoBulk d + 1
  | .slice elems spare => uptoBulkAll elems + uptoBulkAll spare + 1
  | .agg parts => uptoBulkAll parts + 1
  | .iface _ d => uptoBulk d + 1
  | .map entries => uptoBulkEntries entries + 1
  | .held _ => 1
def uptoBulkAll {H : Type} : List (DataW H) → Nat
  | [] => 0
  | d :: r => uptoBulk d + uptoBulkAll r
def uptoBulkEntries {H : Type} : List (Lit × DataW H) → Nat
  | [] => 0
  | x :: r => uptoBulkEntry x + uptoBulkEntries r
def uptoBulkEntry {H : Type} : Lit × DataW H → Nat
  | (.string bytes, d) => bytes.length + uptoBulk d + 1
  | (_, d) => uptoBulk d + 1
 end
def uptoSmall : (H : Type) → List (DataW H) → Bool := fun _ ds => decide (uptoBulkAll ds ≤ 1048576)
def OpenSpec.upto (s : _root_.Go.ChangeSpec) : _root_.Go.OpenSpec := { _root_.Go.OpenSpec.ofChange s with cond := some uptoSmall }

/-- 'cubbyholelaw15.EventSqueezes', WHERE WHAT IT READS IS OF BULK AT MOST 1048576: true; the input reads as it did. -/
def eventSqueezesUptoRow : OpenClaim := { program := "ytjaapenojppnpaa", sum := "ee56b9777dfdadb7a7d3eb0c8729d62e373aad0f136dba7405ab264f94795130", func := "cubbyhole/cubbyholelaw15.EventSqueezes", spec := "eventSqueezes", unfollowed := true, recurses := true, plainKeys := false, apart := false, narrowed := true }
def EventSqueezesUptoSaid : Prop := eventSqueezesUptoRow.holds Try.pinned (OpenSpec.upto eventSqueezesSpec)

/-- 'cubbyholelaw15.EventLast', WHERE WHAT IT READS IS OF BULK AT MOST 1048576: true; the input reads as it did. -/
def eventLastUptoRow : OpenClaim := { program := "ytjaapenojppnpaa", sum := "ee56b9777dfdadb7a7d3eb0c8729d62e373aad0f136dba7405ab264f94795130", func := "cubbyhole/cubbyholelaw15.EventLast", spec := "eventLast", unfollowed := true, recurses := true, plainKeys := false, apart := false, narrowed := true }
def EventLastUptoSaid : Prop := eventLastUptoRow.holds Try.pinned (OpenSpec.upto eventLastSpec)

/-- 'cubbyholelaw15.EventNames', WHERE WHAT IT READS IS OF BULK AT MOST 1048576: true; the input reads as it did. -/
def eventNamesUptoRow : OpenClaim := { program := "ytjaapenojppnpaa", sum := "ee56b9777dfdadb7a7d3eb0c8729d62e373aad0f136dba7405ab264f94795130", func := "cubbyhole/cubbyholelaw15.EventNames", spec := "eventNames", unfollowed := true, recurses := true, plainKeys := false, apart := false, narrowed := true }
def EventNamesUptoSaid : Prop := eventNamesUptoRow.holds Try.pinned (OpenSpec.upto eventNamesSpec)

/-- 'cubbyholelaw15.EventPlays', WHERE WHAT IT READS IS OF BULK AT MOST 1048576: true; the input reads as it did. -/
def eventPlaysUptoRow : OpenClaim := { program := "ytjaapenojppnpaa", sum := "ee56b9777dfdadb7a7d3eb0c8729d62e373aad0f136dba7405ab264f94795130", func := "cubbyhole/cubbyholelaw15.EventPlays", spec := "eventPlays", unfollowed := true, recurses := true, plainKeys := false, apart := false, narrowed := true }
def EventPlaysUptoSaid : Prop := eventPlaysUptoRow.holds Try.pinned (OpenSpec.upto eventPlaysSpec)

/-- 'cubbyholelaw15.EventKeeps', WHERE WHAT IT READS IS OF BULK AT MOST 1048576: true; the input reads as it did. -/
def eventKeepsUptoRow : OpenClaim := { program := "ytjaapenojppnpaa", sum := "ee56b9777dfdadb7a7d3eb0c8729d62e373aad0f136dba7405ab264f94795130", func := "cubbyhole/cubbyholelaw15.EventKeeps", spec := "eventKeeps", unfollowed := true, recurses := true, plainKeys := false, apart := false, narrowed := true }
def EventKeepsUptoSaid : Prop := eventKeepsUptoRow.holds Try.pinned (OpenSpec.upto eventKeepsSpec)

/-- 'cubbyholelaw15.EventDivides', WHERE WHAT IT READS IS OF BULK AT MOST 1048576: true; the input reads as it did. -/
def eventDividesUptoRow : OpenClaim := { program := "ytjaapenojppnpaa", sum := "ee56b9777dfdadb7a7d3eb0c8729d62e373aad0f136dba7405ab264f94795130", func := "cubbyhole/cubbyholelaw15.EventDivides", spec := "eventDivides", unfollowed := true, recurses := true, plainKeys := false, apart := false, narrowed := true }
def EventDividesUptoSaid : Prop := eventDividesUptoRow.holds Try.pinned (OpenSpec.upto eventDividesSpec)

end Rows
end Go.Proofs.Ytjaapenojppnpaa
