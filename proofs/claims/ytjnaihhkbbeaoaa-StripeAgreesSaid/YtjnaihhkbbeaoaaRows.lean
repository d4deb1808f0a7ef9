/-
  No cell of these rows narrows 'for every input' (looked for: loops, veiled, ifaces, maps, wideKeys, modest, calm, conditions, laid).
  DERIVED. THE GIVEN ROWS OF THIS SEAT. 6 by the template 'for every input the law returns true; each argument reads behind the call as it read before'; 0 by the template 'total and deterministic' (their statements: YtjnaihhkbbeaoaaTotals.lean).
  GIVEN WITH THE SEED: the statements are not yours to turn. If you find one false, say at which input.
  Laid BY PROGRAM, IN A SANDBOX (cutbox-rows.mjs): the forced cells as the released guide's own fill.sh prints them over the translation 80262699eaeaf567… (all of the seat's roots in one cut). By AI agents, Wed Nov 11 2026. No macro, syntax, notation, axiom, sorry.
-/
import Derived.Test.YtjnaihhkbbeaoaaChecked
import GoSem.Claim
import GoSem.ClaimJoined
import GoSem.ClaimMapViews
import Derived.JoinedTies
import Derived.KernelRfl
namespace Go.Proofs.Ytjnaihhkbbeaoaa
/- THE CELL 'sum', in the pinned program and in every row, IS THE sha256 OF THE DUMP (.gsa) THAT YtjnaihhkbbeaoaaProg.lean LOADS. Nothing in Lean hashes anything: it is a label: what it is worth is what the hold of that sum in a sandbox is worth. -/
noncomputable def Try.pinned : Pinned := { name := "ytjnaihhkbbeaoaa", sum := "80262699eaeaf567e8b3540ed83b79b16daf3a60dc52ba1057cb21f490223341", checked := Try.checked }
namespace Rows
def none {H : Type} : Left H := { results := [], args := [] }

/-- 'cubbyholelaw13.StripeOf': WHATEVER THE INPUT: true; the input reads as it did. -/
def stripeOfSpec : ChangeSpec := { name := "stripeOf", fn := fun _ => fun
  | [d1, d2] => { results := [.lit (.bool true)], args := [d1, d2] }
  | _ => none }
def stripeOfRow : OpenClaim := { program := "ytjnaihhkbbeaoaa", sum := "80262699eaeaf567e8b3540ed83b79b16daf3a60dc52ba1057cb21f490223341", func := "cubbyhole/cubbyholelaw13.StripeOf", spec := "stripeOf", inPlace := ["(*internal/sync.Mutex).Lock", "internal/race.Disable", "sync/atomic.CompareAndSwapInt32", "internal/race.Enable", "internal/race.Acquire", "(*internal/sync.Mutex).lockSlow", "internal/sync.runtime_canSpin", "internal/sync.runtime_doSpin", "internal/sync.throw", "internal/sync.runtime_nanotime", "internal/sync.runtime_SemacquireMutex", "sync/atomic.AddInt32", "(*internal/sync.Mutex).Unlock", "internal/race.ReleaseMerge", "(*internal/sync.Mutex).unlockSlow", "internal/sync.fatal", "internal/sync.runtime_Semrelease"], unfollowed := true, recurses := true, apart := false }
def StripeOfSaid : Prop := stripeOfRow.holds Try.pinned (OpenSpec.ofChange stripeOfSpec)

/-- ITS FALSE NEIGHBOUR: 'it returns false'. Refute it at one input. -/
def stripeOfWrong : ChangeSpec := { name := "stripeOf", fn := fun _ => fun
  | [d1, d2] => { results := [.lit (.bool false)], args := [d1, d2] }
  | _ => none }
def StripeOfWrongFalsely : Prop := stripeOfRow.holds Try.pinned (OpenSpec.ofChange stripeOfWrong)

/-- 'cubbyholelaw13.StripeLimits': WHATEVER THE INPUT: true; the input reads as it did. -/
def stripeLimitsSpec : ChangeSpec := { name := "stripeLimits", fn := fun _ => fun
  | [d] => { results := [.lit (.bool true)], args := [d] }
  | _ => none }
def stripeLimitsRow : OpenClaim := { program := "ytjnaihhkbbeaoaa", sum := "80262699eaeaf567e8b3540ed83b79b16daf3a60dc52ba1057cb21f490223341", func := "cubbyhole/cubbyholelaw13.StripeLimits", spec := "stripeLimits", inPlace := ["(*internal/sync.Mutex).Lock", "internal/race.Disable", "sync/atomic.CompareAndSwapInt32", "internal/race.Enable", "internal/race.Acquire", "(*internal/sync.Mutex).lockSlow", "internal/sync.runtime_canSpin", "internal/sync.runtime_doSpin", "internal/sync.throw", "internal/sync.runtime_nanotime", "internal/sync.runtime_SemacquireMutex", "sync/atomic.AddInt32", "(*internal/sync.Mutex).Unlock", "internal/race.ReleaseMerge", "(*internal/sync.Mutex).unlockSlow", "internal/sync.fatal", "internal/sync.runtime_Semrelease"], unfollowed := true, recurses := true, apart := false }
def StripeLimitsSaid : Prop := stripeLimitsRow.holds Try.pinned (OpenSpec.ofChange stripeLimitsSpec)

/-- ITS FALSE NEIGHBOUR: 'it returns false'. Refute it at one input. -/
def stripeLimitsWrong : ChangeSpec := { name := "stripeLimits", fn := fun _ => fun
  | [d] => { results := [.lit (.bool false)], args := [d] }
  | _ => none }
def StripeLimitsWrongFalsely : Prop := stripeLimitsRow.holds Try.pinned (OpenSpec.ofChange stripeLimitsWrong)

/-- 'cubbyholelaw13.StripeKeeps': WHATEVER THE INPUT: true; the input reads as it did. -/
def stripeKeepsSpec : ChangeSpec := { name := "stripeKeeps", fn := fun _ => fun
  | [d] => { results := [.lit (.bool true)], args := [d] }
  | _ => none }
def stripeKeepsRow : OpenClaim := { program := "ytjnaihhkbbeaoaa", sum := "80262699eaeaf567e8b3540ed83b79b16daf3a60dc52ba1057cb21f490223341", func := "cubbyhole/cubbyholelaw13.StripeKeeps", spec := "stripeKeeps", inPlace := ["(*internal/sync.Mutex).Lock", "internal/race.Disable", "sync/atomic.CompareAndSwapInt32", "internal/race.Enable", "internal/race.Acquire", "(*internal/sync.Mutex).lockSlow", "internal/sync.runtime_canSpin", "internal/sync.runtime_doSpin", "internal/sync.throw", "internal/sync.runtime_nanotime", "internal/sync.runtime_SemacquireMutex", "sync/atomic.AddInt32", "(*internal/sync.Mutex).Unlock", "internal/race.ReleaseMerge", "(*internal/sync.Mutex).unlockSlow", "internal/sync.fatal", "internal/sync.runtime_Semrelease"], unfollowed := true, recurses := true, apart := false }
def StripeKeepsSaid : Prop := stripeKeepsRow.holds Try.pinned (OpenSpec.ofChange stripeKeepsSpec)

/-- ITS FALSE NEIGHBOUR: 'it returns false'. Refute it at one input. -/
def stripeKeepsWrong : ChangeSpec := { name := "stripeKeeps", fn := fun _ => fun
  | [d] => { results := [.lit (.bool false)], args := [d] }
  | _ => none }
def StripeKeepsWrongFalsely : Prop := stripeKeepsRow.holds Try.pinned (OpenSpec.ofChange stripeKeepsWrong)

/-- 'cubbyholelaw13.StripeAgrees': WHATEVER THE INPUT: true; the input reads as it did. -/
def stripeAgreesSpec : ChangeSpec := { name := "stripeAgrees", fn := fun _ => fun
  | [d1, d2, d3] => { results := [.lit (.bool true)], args := [d1, d2, d3] }
  | _ => none }
def stripeAgreesRow : OpenClaim := { program := "ytjnaihhkbbeaoaa", sum := "80262699eaeaf567e8b3540ed83b79b16daf3a60dc52ba1057cb21f490223341", func := "cubbyhole/cubbyholelaw13.StripeAgrees", spec := "stripeAgrees", inPlace := ["(*internal/sync.Mutex).Lock", "internal/race.Disable", "sync/atomic.CompareAndSwapInt32", "internal/race.Enable", "internal/race.Acquire", "(*internal/sync.Mutex).lockSlow", "internal/sync.runtime_canSpin", "internal/sync.runtime_doSpin", "internal/sync.throw", "internal/sync.runtime_nanotime", "internal/sync.runtime_SemacquireMutex", "sync/atomic.AddInt32", "(*internal/sync.Mutex).Unlock", "internal/race.ReleaseMerge", "(*internal/sync.Mutex).unlockSlow", "internal/sync.fatal", "internal/sync.runtime_Semrelease"], unfollowed := true, recurses := true, apart := false }
def StripeAgreesSaid : Prop := stripeAgreesRow.holds Try.pinned (OpenSpec.ofChange stripeAgreesSpec)

/-- ITS FALSE NEIGHBOUR: 'it returns false'. Refute it at one input. -/
def stripeAgreesWrong : ChangeSpec := { name := "stripeAgrees", fn := fun _ => fun
  | [d1, d2, d3] => { results := [.lit (.bool false)], args := [d1, d2, d3] }
  | _ => none }
def StripeAgreesWrongFalsely : Prop := stripeAgreesRow.holds Try.pinned (OpenSpec.ofChange stripeAgreesWrong)

/-- 'cubbyholelaw13.StripePlays': WHATEVER THE INPUT: true; the input reads as it did. -/
def stripePlaysSpec : ChangeSpec := { name := "stripePlays", fn := fun _ => fun
  | [d1, d2, d3] => { results := [.lit (.bool true)], args := [d1, d2, d3] }
  | _ => none }
def stripePlaysRow : OpenClaim := { program := "ytjnaihhkbbeaoaa", sum := "80262699eaeaf567e8b3540ed83b79b16daf3a60dc52ba1057cb21f490223341", func := "cubbyhole/cubbyholelaw13.StripePlays", spec := "stripePlays", inPlace := ["(*internal/sync.Mutex).Lock", "internal/race.Disable", "sync/atomic.CompareAndSwapInt32", "internal/race.Enable", "internal/race.Acquire", "(*internal/sync.Mutex).lockSlow", "internal/sync.runtime_canSpin", "internal/sync.runtime_doSpin", "internal/sync.throw", "internal/sync.runtime_nanotime", "internal/sync.runtime_SemacquireMutex", "sync/atomic.AddInt32", "(*internal/sync.Mutex).Unlock", "internal/race.ReleaseMerge", "(*internal/sync.Mutex).unlockSlow", "internal/sync.fatal", "internal/sync.runtime_Semrelease"], unfollowed := true, recurses := true, apart := false }
def StripePlaysSaid : Prop := stripePlaysRow.holds Try.pinned (OpenSpec.ofChange stripePlaysSpec)

/-- ITS FALSE NEIGHBOUR: 'it returns false'. Refute it at one input. -/
def stripePlaysWrong : ChangeSpec := { name := "stripePlays", fn := fun _ => fun
  | [d1, d2, d3] => { results := [.lit (.bool false)], args := [d1, d2, d3] }
  | _ => none }
def StripePlaysWrongFalsely : Prop := stripePlaysRow.holds Try.pinned (OpenSpec.ofChange stripePlaysWrong)

/-- 'cubbyholelaw13.StripeNil': WHATEVER THE INPUT: true; the input reads as it did. -/
def stripeNilSpec : ChangeSpec := { name := "stripeNil", fn := fun _ => fun
  | [d] => { results := [.lit (.bool true)], args := [d] }
  | _ => none }
def stripeNilRow : OpenClaim := { program := "ytjnaihhkbbeaoaa", sum := "80262699eaeaf567e8b3540ed83b79b16daf3a60dc52ba1057cb21f490223341", func := "cubbyhole/cubbyholelaw13.StripeNil", spec := "stripeNil", inPlace := ["(*internal/sync.Mutex).Lock", "internal/race.Disable", "sync/atomic.CompareAndSwapInt32", "internal/race.Enable", "internal/race.Acquire", "(*internal/sync.Mutex).lockSlow", "internal/sync.runtime_canSpin", "internal/sync.runtime_doSpin", "internal/sync.throw", "internal/sync.runtime_nanotime", "internal/sync.runtime_SemacquireMutex", "sync/atomic.AddInt32", "(*internal/sync.Mutex).Unlock", "internal/race.ReleaseMerge", "(*internal/sync.Mutex).unlockSlow", "internal/sync.fatal", "internal/sync.runtime_Semrelease"], unfollowed := true, recurses := true, apart := false }
def StripeNilSaid : Prop := stripeNilRow.holds Try.pinned (OpenSpec.ofChange stripeNilSpec)

/-- ITS FALSE NEIGHBOUR: 'it returns false'. Refute it at one input. -/
def stripeNilWrong : ChangeSpec := { name := "stripeNil", fn := fun _ => fun
  | [d] => { results := [.lit (.bool false)], args := [d] }
  | _ => none }
def StripeNilWrongFalsely : Prop := stripeNilRow.holds Try.pinned (OpenSpec.ofChange stripeNilWrong)

/- THE SECOND FORM. 'bulk': how many values and letters a reading holds, each counted each time it is reached (what is shared counts as often as it is met; a slice's spare places count too). A statement '..UptoSaid' is the law's where the arguments, and the package variables that the reading takes, are together of bulk at most 1048576: NARROWER than '..Said'. Prove '..Said' where nothing that the law and all that it calls make is longer than what came in: it says more and counts as full. Else prove '..UptoSaid'. A law counts once. -/
mutual
def uptoBulk {H : Type} : DataW H → Nat
  | .lit (.string bytes) => bytes.length + 1
  | .lit _ => 1
  | .nil => 1
  | .ptr d => uptoBulk d + 1
  | .slice elems spare => uptoBulkAll elems + uptoBulkAll spare + 1
  | .agg parts => uptoBulkAll parts + 1
  | .iface _ d => uptoBulk d + 1
  | .map entries => uptoBulkEntries entries + 1
  | .held _ => 1
def uptoBulkAll {H : Type} : List (DataW H) → Nat
  | [] => 0
  | d :: r => uptoBulk d + uptoBulkAll r
def uptoBulkEntries {H : Type} : List (Lit × DataW H) → Nat
  | [] => 0
  | x :: r => uptoBulkEntry x + uptoBulkEntries r
def uptoBulkEntry {H : Type} : Lit × DataW H → Nat
  | (.string bytes, d) => bytes.length + uptoBulk d + 1
  | (_, d) => uptoBulk d + 1
 end
def uptoSmall : (H : Type) → List (DataW H) → Bool := fun _ ds => decide (uptoBulkAll ds ≤ 1048576)
def OpenSpec.upto (s : _root_.Go.ChangeSpec) : _root_.Go.OpenSpec := { _root_.Go.OpenSpec.ofChange s with cond := some uptoSmall }

/-- 'cubbyholelaw13.StripeOf', WHERE WHAT IT READS IS OF BULK AT MOST 1048576: true; the input reads as it did. -/
def stripeOfUptoRow : OpenClaim := { program := "ytjnaihhkbbeaoaa", sum := "80262699eaeaf567e8b3540ed83b79b16daf3a60dc52ba1057cb21f490223341", func := "cubbyhole/cubbyholelaw13.StripeOf", spec := "stripeOf", inPlace := ["(*internal/sync.Mutex).Lock", "internal/race.Disable", "sync/atomic.CompareAndSwapInt32", "internal/race.Enable", "internal/race.Acquire", "(*internal/sync.Mutex).lockSlow", "internal/sync.runtime_canSpin", "internal/sync.runtime_doSpin", "internal/sync.throw", "internal/sync.runtime_nanotime", "internal/sync.runtime_SemacquireMutex", "sync/atomic.AddInt32", "(*internal/sync.Mutex).Unlock", "internal/race.ReleaseMerge", "(*internal/sync.Mutex).unlockSlow", "internal/sync.fatal", "internal/sync.runtime_Semrelease"], unfollowed := true, recurses := true, apart := false, narrowed := true }
def StripeOfUptoSaid : Prop := stripeOfUptoRow.holds Try.pinned (OpenSpec.upto stripeOfSpec)

/-- 'cubbyholelaw13.StripeLimits', WHERE WHAT IT READS IS OF BULK AT MOST 1048576: true; the input reads as it did. -/
def stripeLimitsUptoRow : OpenClaim := { program := "ytjnaihhkbbeaoaa", sum := "80262699eaeaf567e8b3540ed83b79b16daf3a60dc52ba1057cb21f490223341", func := "cubbyhole/cubbyholelaw13.StripeLimits", spec := "stripeLimits", inPlace := ["(*internal/sync.Mutex).Lock", "internal/race.Disable", "sync/atomic.CompareAndSwapInt32", "internal/race.Enable", "internal/race.Acquire", "(*internal/sync.Mutex).lockSlow", "internal/sync.runtime_canSpin", "internal/sync.runtime_doSpin", "internal/sync.throw", "internal/sync.runtime_nanotime", "internal/sync.runtime_SemacquireMutex", "sync/atomic.AddInt32", "(*internal/sync.Mutex).Unlock", "internal/race.ReleaseMerge", "(*internal/sync.Mutex).unlockSlow", "internal/sync.fatal", "internal/sync.runtime_Semrelease"], unfollowed := true, recurses := true, apart := false, narrowed := true }
def StripeLimitsUptoSaid : Prop := stripeLimitsUptoRow.holds Try.pinned (OpenSpec.upto stripeLimitsSpec)

/-- 'cubbyholelaw13.StripeKeeps', WHERE WHAT IT READS IS OF BULK AT MOST 1048576: true; the input reads as it did. -/
def stripeKeepsUptoRow : OpenClaim := { program := "ytjnaihhkbbeaoaa", sum := "80262699eaeaf567e8b3540ed83b79b16daf3a60dc52ba1057cb21f490223341", func := "cubbyhole/cubbyholelaw13.StripeKeeps", spec := "stripeKeeps", inPlace := ["(*internal/sync.Mutex).Lock", "internal/race.Disable", "sync/atomic.CompareAndSwapInt32", "internal/race.Enable", "internal/race.Acquire", "(*internal/sync.Mutex).lockSlow", "internal/sync.runtime_canSpin", "internal/sync.runtime_doSpin", "internal/sync.throw", "internal/sync.runtime_nanotime", "internal/sync.runtime_SemacquireMutex", "sync/atomic.AddInt32", "(*internal/sync.Mutex).Unlock", "internal/race.ReleaseMerge", "(*internal/sync.Mutex).unlockSlow", "internal/sync.fatal", "internal/sync.runtime_Semrelease"], unfollowed := true, recurses := true, apart := false, narrowed := true }
def StripeKeepsUptoSaid : Prop := stripeKeepsUptoRow.holds Try.pinned (OpenSpec.upto stripeKeepsSpec)

/-- 'cubbyholelaw13.StripeAgrees', WHERE WHAT IT READS IS OF BULK AT MOST 1048576: true; the input reads as it did. -/
def stripeAgreesUptoRow : OpenClaim := { program := "ytjnaihhkbbeaoaa", sum := "80262699eaeaf567e8b3540ed83b79b16daf3a60dc52ba1057cb21f490223341", func := "cubbyhole/cubbyholelaw13.StripeAgrees", spec := "stripeAgrees", inPlace := ["(*internal/sync.Mutex).Lock", "internal/race.Disable", "sync/atomic.CompareAndSwapInt32", "internal/race.Enable", "internal/race.Acquire", "(*internal/sync.Mutex).lockSlow", "internal/sync.runtime_canSpin", "internal/sync.runtime_doSpin", "internal/sync.throw", "internal/sync.runtime_nanotime", "internal/sync.runtime_SemacquireMutex", "sync/atomic.AddInt32", "(*internal/sync.Mutex).Unlock", "internal/race.ReleaseMerge", "(*internal/sync.Mutex).unlockSlow", "internal/sync.fatal", "internal/sync.runtime_Semrelease"], unfollowed := true, recurses := true, apart := false, narrowed := true }
def StripeAgreesUptoSaid : Prop := stripeAgreesUptoRow.holds Try.pinned (OpenSpec.upto stripeAgreesSpec)

/-- 'cubbyholelaw13.StripePlays', WHERE WHAT IT READS IS OF BULK AT MOST 1048576: true; the input reads as it did. -/
def stripePlaysUptoRow : OpenClaim := { program := "ytjnaihhkbbeaoaa", sum := "80262699eaeaf567e8b3540ed83b79b16daf3a60dc52ba1057cb21f490223341", func := "cubbyhole/cubbyholelaw13.StripePlays", spec := "stripePlays", inPlace := ["(*internal/sync.Mutex).Lock", "internal/race.Disable", "sync/atomic.CompareAndSwapInt32", "internal/race.Enable", "internal/race.Acquire", "(*internal/sync.Mutex).lockSlow", "internal/sync.runtime_canSpin", "internal/sync.runtime_doSpin", "internal/sync.throw", "internal/sync.runtime_nanotime", "internal/sync.runtime_SemacquireMutex", "sync/atomic.AddInt32", "(*internal/sync.Mutex).Unlock", "internal/race.ReleaseMerge", "(*internal/sync.Mutex).unlockSlow", "internal/sync.fatal", "internal/sync.runtime_Semrelease"], unfollowed := true, recurses := true, apart := false, narrowed := true }
def StripePlaysUptoSaid : Prop := stripePlaysUptoRow.holds Try.pinned (OpenSpec.upto stripePlaysSpec)

/-- 'cubbyholelaw13.StripeNil', WHERE WHAT IT READS IS OF BULK AT MOST 1048576: true; the input reads as it did. -/
def stripeNilUptoRow : OpenClaim := { program := "ytjnaihhkbbeaoaa", sum := "80262699eaeaf567e8b3540ed83b79b16daf3a60dc52ba1057cb21f490223341", func := "cubbyhole/cubbyholelaw13.StripeNil", spec := "stripeNil", inPlace := ["(*internal/sync.Mutex).Lock", "internal/race.Disable", "sync/atomic.CompareAndSwapInt32", "internal/race.Enable", "internal/race.Acquire", "(*internal/sync.Mutex).lockSlow", "internal/sync.runtime_canSpin", "internal/sync.runtime_doSpin", "internal/sync.throw", "internal/sync.runtime_nanotime", "internal/sync.runtime_SemacquireMutex", "sync/atomic.AddInt32", "(*internal/sync.Mutex).Unlock", "internal/race.ReleaseMerge", "(*internal/sync.Mutex).unlockSlow", "internal/sync.fatal", "internal/sync.runtime_Semrelease"], unfollowed := true, recurses := true, apart := false, narrowed := true }
def StripeNilUptoSaid : Prop := stripeNilUptoRow.holds Try.pinned (OpenSpec.upto stripeNilSpec)

end Rows
end Go.Proofs.Ytjnaihhkbbeaoaa
