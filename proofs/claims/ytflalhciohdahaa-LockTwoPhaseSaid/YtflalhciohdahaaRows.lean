/-
  No cell of these rows narrows 'for every input' (looked for: loops, veiled, ifaces, maps, wideKeys, modest, calm, conditions, laid).
  DERIVED. THE GIVEN ROWS OF THIS SEAT. 6 by the template 'for every input the law returns true; each argument reads behind the call as it read before'; 0 by the template 'total and deterministic' (their statements: YtflalhciohdahaaTotals.lean).
  GIVEN WITH THE SEED: the statements are not yours to turn. If you find one false, say at which input.
  Laid BY PROGRAM, IN A SANDBOX (cutbox-rows.mjs): the forced cells as the released guide's own fill.sh prints them over the translation 4900504ea8c5e8e5… (all of the seat's roots in one cut). By AI agents, Wed Nov 11 2026. No macro, syntax, notation, axiom, sorry.
-/
import Derived.Test.YtflalhciohdahaaChecked
import GoSem.Claim
import GoSem.ClaimJoined
import GoSem.ClaimMapViews
import Derived.JoinedTies
import Derived.KernelRfl
namespace Go.Proofs.Ytflalhciohdahaa
/- THE CELL 'sum', in the pinned program and in every row, IS THE sha256 OF THE DUMP (.gsa) THAT YtflalhciohdahaaProg.lean LOADS. Nothing in Lean hashes anything: it is a label: what it is worth is what the hold of that sum in a sandbox is worth. -/
noncomputable def Try.pinned : Pinned := { name := "ytflalhciohdahaa", sum := "4900504ea8c5e8e5974aa854127313f9a437839d29028c5859f4ff98bbf56d95", checked := Try.checked }
namespace Rows
def none {H : Type} : Left H := { results := [], args := [] }

/-- 'cubbyholelaw14.LockLimits': WHATEVER THE INPUT: true; the input reads as it did. -/
def lockLimitsSpec : ChangeSpec := { name := "lockLimits", fn := fun _ => fun
  | [d] => { results := [.lit (.bool true)], args := [d] }
  | _ => none }
def lockLimitsRow : OpenClaim := { program := "ytflalhciohdahaa", sum := "4900504ea8c5e8e5974aa854127313f9a437839d29028c5859f4ff98bbf56d95", func := "cubbyhole/cubbyholelaw14.LockLimits", spec := "lockLimits", inPlace := ["sync/atomic.AddInt64", "sync/atomic.LoadInt64"], unfollowed := true, recurses := true, apart := false }
def LockLimitsSaid : Prop := lockLimitsRow.holds Try.pinned (OpenSpec.ofChange lockLimitsSpec)

/-- ITS FALSE NEIGHBOUR: 'it returns false'. Refute it at one input. -/
def lockLimitsWrong : ChangeSpec := { name := "lockLimits", fn := fun _ => fun
  | [d] => { results := [.lit (.bool false)], args := [d] }
  | _ => none }
def LockLimitsWrongFalsely : Prop := lockLimitsRow.holds Try.pinned (OpenSpec.ofChange lockLimitsWrong)

/-- 'cubbyholelaw14.LockBlocks': WHATEVER THE INPUT: true; the input reads as it did. -/
def lockBlocksSpec : ChangeSpec := { name := "lockBlocks", fn := fun _ => fun
  | [d1, d2, d3] => { results := [.lit (.bool true)], args := [d1, d2, d3] }
  | _ => none }
def lockBlocksRow : OpenClaim := { program := "ytflalhciohdahaa", sum := "4900504ea8c5e8e5974aa854127313f9a437839d29028c5859f4ff98bbf56d95", func := "cubbyhole/cubbyholelaw14.LockBlocks", spec := "lockBlocks", inPlace := ["sync/atomic.AddInt64", "sync/atomic.LoadInt64"], unfollowed := true, recurses := true, apart := false }
def LockBlocksSaid : Prop := lockBlocksRow.holds Try.pinned (OpenSpec.ofChange lockBlocksSpec)

/-- ITS FALSE NEIGHBOUR: 'it returns false'. Refute it at one input. -/
def lockBlocksWrong : ChangeSpec := { name := "lockBlocks", fn := fun _ => fun
  | [d1, d2, d3] => { results := [.lit (.bool false)], args := [d1, d2, d3] }
  | _ => none }
def LockBlocksWrongFalsely : Prop := lockBlocksRow.holds Try.pinned (OpenSpec.ofChange lockBlocksWrong)

/-- 'cubbyholelaw14.LockOrder': WHATEVER THE INPUT: true; the input reads as it did. -/
def lockOrderSpec : ChangeSpec := { name := "lockOrder", fn := fun _ => fun
  | [d1, d2] => { results := [.lit (.bool true)], args := [d1, d2] }
  | _ => none }
def lockOrderRow : OpenClaim := { program := "ytflalhciohdahaa", sum := "4900504ea8c5e8e5974aa854127313f9a437839d29028c5859f4ff98bbf56d95", func := "cubbyhole/cubbyholelaw14.LockOrder", spec := "lockOrder", inPlace := ["sync/atomic.AddInt64", "sync/atomic.LoadInt64"], unfollowed := true, recurses := true, apart := false }
def LockOrderSaid : Prop := lockOrderRow.holds Try.pinned (OpenSpec.ofChange lockOrderSpec)

/-- ITS FALSE NEIGHBOUR: 'it returns false'. Refute it at one input. -/
def lockOrderWrong : ChangeSpec := { name := "lockOrder", fn := fun _ => fun
  | [d1, d2] => { results := [.lit (.bool false)], args := [d1, d2] }
  | _ => none }
def LockOrderWrongFalsely : Prop := lockOrderRow.holds Try.pinned (OpenSpec.ofChange lockOrderWrong)

/-- 'cubbyholelaw14.LockPlays': WHATEVER THE INPUT: true; the input reads as it did. -/
def lockPlaysSpec : ChangeSpec := { name := "lockPlays", fn := fun _ => fun
  | [d1, d2] => { results := [.lit (.bool true)], args := [d1, d2] }
  | _ => none }
def lockPlaysRow : OpenClaim := { program := "ytflalhciohdahaa", sum := "4900504ea8c5e8e5974aa854127313f9a437839d29028c5859f4ff98bbf56d95", func := "cubbyhole/cubbyholelaw14.LockPlays", spec := "lockPlays", inPlace := ["sync/atomic.AddInt64", "sync/atomic.LoadInt64"], unfollowed := true, recurses := true, apart := false }
def LockPlaysSaid : Prop := lockPlaysRow.holds Try.pinned (OpenSpec.ofChange lockPlaysSpec)

/-- ITS FALSE NEIGHBOUR: 'it returns false'. Refute it at one input. -/
def lockPlaysWrong : ChangeSpec := { name := "lockPlays", fn := fun _ => fun
  | [d1, d2] => { results := [.lit (.bool false)], args := [d1, d2] }
  | _ => none }
def LockPlaysWrongFalsely : Prop := lockPlaysRow.holds Try.pinned (OpenSpec.ofChange lockPlaysWrong)

/-- 'cubbyholelaw14.LockNil': WHATEVER THE INPUT: true; the input reads as it did. -/
def lockNilSpec : ChangeSpec := { name := "lockNil", fn := fun _ => fun
  | [d1, d2] => { results := [.lit (.bool true)], args := [d1, d2] }
  | _ => none }
def lockNilRow : OpenClaim := { program := "ytflalhciohdahaa", sum := "4900504ea8c5e8e5974aa854127313f9a437839d29028c5859f4ff98bbf56d95", func := "cubbyhole/cubbyholelaw14.LockNil", spec := "lockNil", inPlace := ["sync/atomic.AddInt64", "sync/atomic.LoadInt64"], unfollowed := true, recurses := true, apart := false }
def LockNilSaid : Prop := lockNilRow.holds Try.pinned (OpenSpec.ofChange lockNilSpec)

/-- ITS FALSE NEIGHBOUR: 'it returns false'. Refute it at one input. -/
def lockNilWrong : ChangeSpec := { name := "lockNil", fn := fun _ => fun
  | [d1, d2] => { results := [.lit (.bool false)], args := [d1, d2] }
  | _ => none }
def LockNilWrongFalsely : Prop := lockNilRow.holds Try.pinned (OpenSpec.ofChange lockNilWrong)

/-- 'cubbyholelaw14.LockTwoPhase': WHATEVER THE INPUT: true; the input reads as it did. -/
def lockTwoPhaseSpec : ChangeSpec := { name := "lockTwoPhase", fn := fun _ => fun
  | [d1, d2] => { results := [.lit (.bool true)], args := [d1, d2] }
  | _ => none }
def lockTwoPhaseRow : OpenClaim := { program := "ytflalhciohdahaa", sum := "4900504ea8c5e8e5974aa854127313f9a437839d29028c5859f4ff98bbf56d95", func := "cubbyhole/cubbyholelaw14.LockTwoPhase", spec := "lockTwoPhase", inPlace := ["sync/atomic.AddInt64", "sync/atomic.LoadInt64"], unfollowed := true, recurses := true, apart := false }
def LockTwoPhaseSaid : Prop := lockTwoPhaseRow.holds Try.pinned (OpenSpec.ofChange lockTwoPhaseSpec)

/-- ITS FALSE NEIGHBOUR: 'it returns false'. Refute it at one input. -/
def lockTwoPhaseWrong : ChangeSpec := { name := "lockTwoPhase", fn := fun _ => fun
  | [d1, d2] => { results := [.lit (.bool false)], args := [d1, d2] }
  | _ => none }
def LockTwoPhaseWrongFalsely : Prop := lockTwoPhaseRow.holds Try.pinned (OpenSpec.ofChange lockTwoPhaseWrong)

/- THE SECOND FORM. 'bulk': how many values and letters a reading holds, each counted each time it is reached (what is shared counts as often as it is met; a slice's spare places count too). A statement '..UptoSaid' is the law's where the arguments, and the package variables that the reading takes, are together of bulk at most 1048576: NARROWER than '..Said'. Prove '..Said' where nothing that the law and all that it calls make is longer than what came in: it says more and counts as full. Else prove '..UptoSaid'. A law counts once. -/
mutual
def uptoBulk {H : Type} : DataW H → Nat
  | .lit (.string bytes) => bytes.length + 1
  | .lit _ => 1
  | .nil => 1
  | .ptr d => uptoBulk d + 1
  | .slice elems spare => uptoBulkAll elems + uptoBulkAll spare + 1
  | .agg parts => uptoBulkAll parts + 1
  | .iface _ d => uptoBulk d + 1
  | .map entries => uptoBulkEntries entries + 1
  | .held _ => 1
def uptoBulkAll {H : Type} : List (DataW H) → Nat
  | [] => 0
  | d :: r => uptoBulk d + uptoBulkAll r
def uptoBulkEntries {H : Type} : List (Lit × DataW H) → Nat
  | [] => 0
  | x :: r => uptoBulkEntry x + uptoBulkEntries r
def uptoBulkEntry {H : Type} : Lit × DataW H → Nat
  | (.string bytes, d) => bytes.length + uptoBulk d + 1
  | (_, d) => uptoBulk d + 1
 end
def uptoSmall : (H : Type) → List (DataW H) → Bool := fun _ ds => decide (uptoBulkAll ds ≤ 1048576)
def OpenSpec.upto (s : _root_.Go.ChangeSpec) : _root_.Go.OpenSpec := { _root_.Go.OpenSpec.ofChange s with cond := some uptoSmall }

/-- 'cubbyholelaw14.LockLimits', WHERE WHAT IT READS IS OF BULK AT MOST 1048576: true; the input reads as it did. -/
def lockLimitsUptoRow : OpenClaim := { program := "ytflalhciohdahaa", sum := "4900504ea8c5e8e5974aa854127313f9a437839d29028c5859f4ff98bbf56d95", func := "cubbyhole/cubbyholelaw14.LockLimits", spec := "lockLimits", inPlace := ["sync/atomic.AddInt64", "sync/atomic.LoadInt64"], unfollowed := true, recurses := true, apart := false, narrowed := true }
def LockLimitsUptoSaid : Prop := lockLimitsUptoRow.holds Try.pinned (OpenSpec.upto lockLimitsSpec)

/-- 'cubbyholelaw14.LockBlocks', WHERE WHAT IT READS IS OF BULK AT MOST 1048576: true; the input reads as it did. -/
def lockBlocksUptoRow : OpenClaim := { program := "ytflalhciohdahaa", sum := "4900504ea8c5e8e5974aa854127313f9a437839d29028c5859f4ff98bbf56d95", func := "cubbyhole/cubbyholelaw14.LockBlocks", spec := "lockBlocks", inPlace := ["sync/atomic.AddInt64", "sync/atomic.LoadInt64"], unfollowed := true, recurses := true, apart := false, narrowed := true }
def LockBlocksUptoSaid : Prop := lockBlocksUptoRow.holds Try.pinned (OpenSpec.upto lockBlocksSpec)

/-- 'cubbyholelaw14.LockOrder', WHERE WHAT IT READS IS OF BULK AT MOST 1048576: true; the input reads as it did. -/
def lockOrderUptoRow : OpenClaim := { program := "ytflalhciohdahaa", sum := "4900504ea8c5e8e5974aa854127313f9a437839d29028c5859f4ff98bbf56d95", func := "cubbyhole/cubbyholelaw14.LockOrder", spec := "lockOrder", inPlace := ["sync/atomic.AddInt64", "sync/atomic.LoadInt64"], unfollowed := true, recurses := true, apart := false, narrowed := true }
def LockOrderUptoSaid : Prop := lockOrderUptoRow.holds Try.pinned (OpenSpec.upto lockOrderSpec)

/-- 'cubbyholelaw14.LockPlays', WHERE WHAT IT READS IS OF BULK AT MOST 1048576: true; the input reads as it did. -/
def lockPlaysUptoRow : OpenClaim := { program := "ytflalhciohdahaa", sum := "4900504ea8c5e8e5974aa854127313f9a437839d29028c5859f4ff98bbf56d95", func := "cubbyhole/cubbyholelaw14.LockPlays", spec := "lockPlays", inPlace := ["sync/atomic.AddInt64", "sync/atomic.LoadInt64"], unfollowed := true, recurses := true, apart := false, narrowed := true }
def LockPlaysUptoSaid : Prop := lockPlaysUptoRow.holds Try.pinned (OpenSpec.upto lockPlaysSpec)

/-- 'cubbyholelaw14.LockNil', WHERE WHAT IT READS IS OF BULK AT MOST 1048576: true; the input reads as it did. -/
def lockNilUptoRow : OpenClaim := { program := "ytflalhciohdahaa", sum := "4900504ea8c5e8e5974aa854127313f9a437839d29028c5859f4ff98bbf56d95", func := "cubbyhole/cubbyholelaw14.LockNil", spec := "lockNil", inPlace := ["sync/atomic.AddInt64", "sync/atomic.LoadInt64"], unfollowed := true, recurses := true, apart := false, narrowed := true }
def LockNilUptoSaid : Prop := lockNilUptoRow.holds Try.pinned (OpenSpec.upto lockNilSpec)

/-- 'cubbyholelaw14.LockTwoPhase', WHERE WHAT IT READS IS OF BULK AT MOST 1048576: true; the input reads as it did. -/
def lockTwoPhaseUptoRow : OpenClaim := { program := "ytflalhciohdahaa", sum := "4900504ea8c5e8e5974aa854127313f9a437839d29028c5859f4ff98bbf56d95", func := "cubbyhole/cubbyholelaw14.LockTwoPhase", spec := "lockTwoPhase", inPlace := ["sync/atomic.AddInt64", "sync/atomic.LoadInt64"], unfollowed := true, recurses := true, apart := false, narrowed := true }
def LockTwoPhaseUptoSaid : Prop := lockTwoPhaseUptoRow.holds Try.pinned (OpenSpec.upto lockTwoPhaseSpec)

end Rows
end Go.Proofs.Ytflalhciohdahaa
