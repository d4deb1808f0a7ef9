/-
  No cell of these rows narrows 'for every input' (looked for: loops, veiled, ifaces, maps, wideKeys, modest, calm, conditions, laid).
  DERIVED. THE GIVEN ROWS OF THIS SEAT. 6 by the template 'for every input the law returns true; each argument reads behind the call as it read before'; 0 by the template 'total and deterministic' (their statements: YtkpfekchcjmjeaaTotals.lean).
  GIVEN WITH THE SEED: the statements are not yours to turn. If you find one false, say at which input.
  Laid BY PROGRAM, IN A SANDBOX (cutbox-rows.mjs): the forced cells as the released guide's own fill.sh prints them over the translation d51256f17a833e8c… (all of the seat's roots in one cut). By AI agents, Wed Nov 11 2026. No macro, syntax, notation, axiom, sorry.
-/
import Derived.Test.YtkpfekchcjmjeaaChecked
import GoSem.Claim
import GoSem.ClaimJoined
import GoSem.ClaimMapViews
import Derived.JoinedTies
import Derived.KernelRfl
namespace Go.Proofs.Ytkpfekchcjmjeaa
/- THE CELL 'sum', in the pinned program and in every row, IS THE sha256 OF THE DUMP (.gsa) THAT YtkpfekchcjmjeaaProg.lean LOADS. Nothing in Lean hashes anything: it is a label: what it is worth is what the hold of that sum in a sandbox is worth. -/
noncomputable def Try.pinned : Pinned := { name := "ytkpfekchcjmjeaa", sum := "d51256f17a833e8cada874c40a61ebdf69cba476ee91921feed1b993479ff34c", checked := Try.checked }
namespace Rows
def none {H : Type} : Left H := { results := [], args := [] }

/-- 'cubbyholelaw11.UidAscends': WHATEVER THE INPUT: true; the input reads as it did. -/
def uidAscendsSpec : ChangeSpec := { name := "uidAscends", fn := fun _ => fun
  | [d1, d2] => { results := [.lit (.bool true)], args := [d1, d2] }
  | _ => none }
def uidAscendsRow : OpenClaim := { program := "ytkpfekchcjmjeaa", sum := "d51256f17a833e8cada874c40a61ebdf69cba476ee91921feed1b993479ff34c", func := "cubbyhole/cubbyholelaw11.UidAscends", spec := "uidAscends", inPlace := ["sync/atomic.StoreUint32", "sync/atomic.LoadUint32", "sync/atomic.CompareAndSwapUint32", "sync/atomic.AddUint64"], apart := false }
def UidAscendsSaid : Prop := uidAscendsRow.holds Try.pinned (OpenSpec.ofChange uidAscendsSpec)

/-- ITS FALSE NEIGHBOUR: 'it returns false'. Refute it at one input. -/
def uidAscendsWrong : ChangeSpec := { name := "uidAscends", fn := fun _ => fun
  | [d1, d2] => { results := [.lit (.bool false)], args := [d1, d2] }
  | _ => none }
def UidAscendsWrongFalsely : Prop := uidAscendsRow.holds Try.pinned (OpenSpec.ofChange uidAscendsWrong)

/-- 'cubbyholelaw11.UidSkips': WHATEVER THE INPUT: true; the input reads as it did. -/
def uidSkipsSpec : ChangeSpec := { name := "uidSkips", fn := fun _ => fun
  | [d1, d2] => { results := [.lit (.bool true)], args := [d1, d2] }
  | _ => none }
def uidSkipsRow : OpenClaim := { program := "ytkpfekchcjmjeaa", sum := "d51256f17a833e8cada874c40a61ebdf69cba476ee91921feed1b993479ff34c", func := "cubbyhole/cubbyholelaw11.UidSkips", spec := "uidSkips", inPlace := ["sync/atomic.StoreUint32", "sync/atomic.LoadUint32", "sync/atomic.CompareAndSwapUint32", "sync/atomic.AddUint64", "sync/atomic.LoadUint64"], apart := false }
def UidSkipsSaid : Prop := uidSkipsRow.holds Try.pinned (OpenSpec.ofChange uidSkipsSpec)

/-- ITS FALSE NEIGHBOUR: 'it returns false'. Refute it at one input. -/
def uidSkipsWrong : ChangeSpec := { name := "uidSkips", fn := fun _ => fun
  | [d1, d2] => { results := [.lit (.bool false)], args := [d1, d2] }
  | _ => none }
def UidSkipsWrongFalsely : Prop := uidSkipsRow.holds Try.pinned (OpenSpec.ofChange uidSkipsWrong)

/-- 'cubbyholelaw11.UidFull': WHATEVER THE INPUT: true; the input reads as it did. -/
def uidFullSpec : ChangeSpec := { name := "uidFull", fn := fun _ => fun
  | [d] => { results := [.lit (.bool true)], args := [d] }
  | _ => none }
def uidFullRow : OpenClaim := { program := "ytkpfekchcjmjeaa", sum := "d51256f17a833e8cada874c40a61ebdf69cba476ee91921feed1b993479ff34c", func := "cubbyhole/cubbyholelaw11.UidFull", spec := "uidFull", inPlace := ["sync/atomic.StoreUint32", "sync/atomic.LoadUint32", "sync/atomic.CompareAndSwapUint32", "sync/atomic.AddUint64", "sync/atomic.LoadUint64"], apart := false }
def UidFullSaid : Prop := uidFullRow.holds Try.pinned (OpenSpec.ofChange uidFullSpec)

/-- ITS FALSE NEIGHBOUR: 'it returns false'. Refute it at one input. -/
def uidFullWrong : ChangeSpec := { name := "uidFull", fn := fun _ => fun
  | [d] => { results := [.lit (.bool false)], args := [d] }
  | _ => none }
def UidFullWrongFalsely : Prop := uidFullRow.holds Try.pinned (OpenSpec.ofChange uidFullWrong)

/-- 'cubbyholelaw11.UidValid': WHATEVER THE INPUT: true; the input reads as it did. -/
def uidValidSpec : ChangeSpec := { name := "uidValid", fn := fun _ => fun
  | [d1, d2, d3] => { results := [.lit (.bool true)], args := [d1, d2, d3] }
  | _ => none }
def uidValidRow : OpenClaim := { program := "ytkpfekchcjmjeaa", sum := "d51256f17a833e8cada874c40a61ebdf69cba476ee91921feed1b993479ff34c", func := "cubbyhole/cubbyholelaw11.UidValid", spec := "uidValid", inPlace := ["sync/atomic.StoreUint32", "sync/atomic.LoadUint32", "(*internal/sync.Mutex).Lock", "internal/race.Disable", "sync/atomic.CompareAndSwapInt32", "internal/race.Enable", "internal/race.Acquire", "(*internal/sync.Mutex).lockSlow", "internal/sync.runtime_canSpin", "internal/sync.runtime_doSpin", "internal/sync.throw", "internal/sync.runtime_nanotime", "internal/sync.runtime_SemacquireMutex", "sync/atomic.AddInt32", "(*internal/sync.Mutex).Unlock", "internal/race.ReleaseMerge", "(*internal/sync.Mutex).unlockSlow", "internal/sync.fatal", "internal/sync.runtime_Semrelease", "sync/atomic.CompareAndSwapUint32", "sync/atomic.AddUint64"], unfollowed := true, recurses := true, apart := false }
def UidValidSaid : Prop := uidValidRow.holds Try.pinned (OpenSpec.ofChange uidValidSpec)

/-- ITS FALSE NEIGHBOUR: 'it returns false'. Refute it at one input. -/
def uidValidWrong : ChangeSpec := { name := "uidValid", fn := fun _ => fun
  | [d1, d2, d3] => { results := [.lit (.bool false)], args := [d1, d2, d3] }
  | _ => none }
def UidValidWrongFalsely : Prop := uidValidRow.holds Try.pinned (OpenSpec.ofChange uidValidWrong)

/-- 'cubbyholelaw11.UidTakes': WHATEVER THE INPUT: true; the input reads as it did. -/
def uidTakesSpec : ChangeSpec := { name := "uidTakes", fn := fun _ => fun
  | [d1, d2] => { results := [.lit (.bool true)], args := [d1, d2] }
  | _ => none }
def uidTakesRow : OpenClaim := { program := "ytkpfekchcjmjeaa", sum := "d51256f17a833e8cada874c40a61ebdf69cba476ee91921feed1b993479ff34c", func := "cubbyhole/cubbyholelaw11.UidTakes", spec := "uidTakes", inPlace := ["sync/atomic.StoreUint32", "sync/atomic.LoadUint32", "sync/atomic.CompareAndSwapUint32", "sync/atomic.AddUint64", "sync/atomic.LoadUint64", "(*internal/sync.Mutex).Lock", "internal/race.Disable", "sync/atomic.CompareAndSwapInt32", "internal/race.Enable", "internal/race.Acquire", "(*internal/sync.Mutex).lockSlow", "internal/sync.runtime_canSpin", "internal/sync.runtime_doSpin", "internal/sync.throw", "internal/sync.runtime_nanotime", "internal/sync.runtime_SemacquireMutex", "sync/atomic.AddInt32", "(*internal/sync.Mutex).Unlock", "internal/race.ReleaseMerge", "(*internal/sync.Mutex).unlockSlow", "internal/sync.fatal", "internal/sync.runtime_Semrelease"], unfollowed := true, recurses := true, apart := false }
def UidTakesSaid : Prop := uidTakesRow.holds Try.pinned (OpenSpec.ofChange uidTakesSpec)

/-- ITS FALSE NEIGHBOUR: 'it returns false'. Refute it at one input. -/
def uidTakesWrong : ChangeSpec := { name := "uidTakes", fn := fun _ => fun
  | [d1, d2] => { results := [.lit (.bool false)], args := [d1, d2] }
  | _ => none }
def UidTakesWrongFalsely : Prop := uidTakesRow.holds Try.pinned (OpenSpec.ofChange uidTakesWrong)

/-- 'cubbyholelaw11.UidNil': WHATEVER THE INPUT: true; the input reads as it did. -/
def uidNilSpec : ChangeSpec := { name := "uidNil", fn := fun _ => fun
  | [d] => { results := [.lit (.bool true)], args := [d] }
  | _ => none }
def uidNilRow : OpenClaim := { program := "ytkpfekchcjmjeaa", sum := "d51256f17a833e8cada874c40a61ebdf69cba476ee91921feed1b993479ff34c", func := "cubbyhole/cubbyholelaw11.UidNil", spec := "uidNil", inPlace := ["sync/atomic.StoreUint32", "sync/atomic.LoadUint32", "sync/atomic.CompareAndSwapUint32", "sync/atomic.AddUint64", "sync/atomic.LoadUint64", "(*internal/sync.Mutex).Lock", "internal/race.Disable", "sync/atomic.CompareAndSwapInt32", "internal/race.Enable", "internal/race.Acquire", "(*internal/sync.Mutex).lockSlow", "internal/sync.runtime_canSpin", "internal/sync.runtime_doSpin", "internal/sync.throw", "internal/sync.runtime_nanotime", "internal/sync.runtime_SemacquireMutex", "sync/atomic.AddInt32", "(*internal/sync.Mutex).Unlock", "internal/race.ReleaseMerge", "(*internal/sync.Mutex).unlockSlow", "internal/sync.fatal", "internal/sync.runtime_Semrelease"], unfollowed := true, recurses := true, apart := false }
def UidNilSaid : Prop := uidNilRow.holds Try.pinned (OpenSpec.ofChange uidNilSpec)

/-- ITS FALSE NEIGHBOUR: 'it returns false'. Refute it at one input. -/
def uidNilWrong : ChangeSpec := { name := "uidNil", fn := fun _ => fun
  | [d] => { results := [.lit (.bool false)], args := [d] }
  | _ => none }
def UidNilWrongFalsely : Prop := uidNilRow.holds Try.pinned (OpenSpec.ofChange uidNilWrong)

/- THE SECOND FORM. 'bulk': how many values and letters a reading holds, each counted each time it is reached (what is shared counts as often as it is met; a slice's spare places count too). A statement '..UptoSaid' is the law's where the arguments, and the package variables that the reading takes, are together of bulk at most 1048576: NARROWER than '..Said'. Prove '..Said' where nothing that the law and all that it calls make is longer than what came in: it says more and counts as full. Else prove '..UptoSaid'. A law counts once. -/
mutual
def uptoBulk {H : Type} : DataW H → Nat
  | .lit (.string bytes) => bytes.length + 1
  | .lit _ => 1
  | .nil => 1
  | .ptr d => uptoBulk d + 1
  | .slice elems spare => uptoBulkAll elems + uptoBulkAll spare + 1
  | .agg parts => uptoBulkAll parts + 1
  | .iface _ d => uptoBulk d + 1
  | .map entries => uptoBulkEntries entries + 1
  | .held _ => 1
def uptoBulkAll {H : Type} : List (DataW H) → Nat
  | [] => 0
  | d :: r => uptoBulk d + uptoBulkAll r
def uptoBulkEntries {H : Type} : List (Lit × DataW H) → Nat
  | [] => 0
  | x :: r => uptoBulkEntry x + uptoBulkEntries r
def uptoBulkEntry {H : Type} : Lit × DataW H → Nat
  | (.string bytes, d) => bytes.length + uptoBulk d + 1
  | (_, d) => uptoBulk d + 1
 end
def uptoSmall : (H : Type) → List (DataW H) → Bool := fun _ ds => decide (uptoBulkAll ds ≤ 1048576)
def OpenSpec.upto (s : _root_.Go.ChangeSpec) : _root_.Go.OpenSpec := { _root_.Go.OpenSpec.ofChange s with cond := some uptoSmall }

/-- 'cubbyholelaw11.UidAscends', WHERE WHAT IT READS IS OF BULK AT MOST 1048576: true; the input reads as it did. -/
def uidAscendsUptoRow : OpenClaim := { program := "ytkpfekchcjmjeaa", sum := "d51256f17a833e8cada874c40a61ebdf69cba476ee91921feed1b993479ff34c", func := "cubbyhole/cubbyholelaw11.UidAscends", spec := "uidAscends", inPlace := ["sync/atomic.StoreUint32", "sync/atomic.LoadUint32", "sync/atomic.CompareAndSwapUint32", "sync/atomic.AddUint64"], apart := false, narrowed := true }
def UidAscendsUptoSaid : Prop := uidAscendsUptoRow.holds Try.pinned (OpenSpec.upto uidAscendsSpec)

/-- 'cubbyholelaw11.UidSkips', WHERE WHAT IT READS IS OF BULK AT MOST 1048576: true; the input reads as it did. -/
def uidSkipsUptoRow : OpenClaim := { program := "ytkpfekchcjmjeaa", sum := "d51256f17a833e8cada874c40a61ebdf69cba476ee91921feed1b993479ff34c", func := "cubbyhole/cubbyholelaw11.UidSkips", spec := "uidSkips", inPlace := ["sync/atomic.StoreUint32", "sync/atomic.LoadUint32", "sync/atomic.CompareAndSwapUint32", "sync/atomic.AddUint64", "sync/atomic.LoadUint64"], apart := false, narrowed := true }
def UidSkipsUptoSaid : Prop := uidSkipsUptoRow.holds Try.pinned (OpenSpec.upto uidSkipsSpec)

/-- 'cubbyholelaw11.UidFull', WHERE WHAT IT READS IS OF BULK AT MOST 1048576: true; the input reads as it did. -/
def uidFullUptoRow : OpenClaim := { program := "ytkpfekchcjmjeaa", sum := "d51256f17a833e8cada874c40a61ebdf69cba476ee91921feed1b993479ff34c", func := "cubbyhole/cubbyholelaw11.UidFull", spec := "uidFull", inPlace := ["sync/atomic.StoreUint32", "sync/atomic.LoadUint32", "sync/atomic.CompareAndSwapUint32", "sync/atomic.AddUint64", "sync/atomic.LoadUint64"], apart := false, narrowed := true }
def UidFullUptoSaid : Prop := uidFullUptoRow.holds Try.pinned (OpenSpec.upto uidFullSpec)

/-- 'cubbyholelaw11.UidValid', WHERE WHAT IT READS IS OF BULK AT MOST 1048576: true; the input reads as it did. -/
def uidValidUptoRow : OpenClaim := { program := "ytkpfekchcjmjeaa", sum := "d51256f17a833e8cada874c40a61ebdf69cba476ee91921feed1b993479ff34c", func := "cubbyhole/cubbyholelaw11.UidValid", spec := "uidValid", inPlace := ["sync/atomic.StoreUint32", "sync/atomic.LoadUint32", "(*internal/sync.Mutex).Lock", "internal/race.Disable", "sync/atomic.CompareAndSwapInt32", "internal/race.Enable", "internal/race.Acquire", "(*internal/sync.Mutex).lockSlow", "internal/sync.runtime_canSpin", "internal/sync.runtime_doSpin", "internal/sync.throw", "internal/sync.runtime_nanotime", "internal/sync.runtime_SemacquireMutex", "sync/atomic.AddInt32", "(*internal/sync.Mutex).Unlock", "internal/race.ReleaseMerge", "(*internal/sync.Mutex).unlockSlow", "internal/sync.fatal", "internal/sync.runtime_Semrelease", "sync/atomic.CompareAndSwapUint32", "sync/atomic.AddUint64"], unfollowed := true, recurses := true, apart := false, narrowed := true }
def UidValidUptoSaid : Prop := uidValidUptoRow.holds Try.pinned (OpenSpec.upto uidValidSpec)

/-- 'cubbyholelaw11.UidTakes', WHERE WHAT IT READS IS OF BULK AT MOST 1048576: true; the input reads as it did. -/
def uidTakesUptoRow : OpenClaim := { program := "ytkpfekchcjmjeaa", sum := "d51256f17a833e8cada874c40a61ebdf69cba476ee91921feed1b993479ff34c", func := "cubbyhole/cubbyholelaw11.UidTakes", spec := "uidTakes", inPlace := ["sync/atomic.StoreUint32", "sync/atomic.LoadUint32", "sync/atomic.CompareAndSwapUint32", "sync/atomic.AddUint64", "sync/atomic.LoadUint64", "(*internal/sync.Mutex).Lock", "internal/race.Disable", "sync/atomic.CompareAndSwapInt32", "internal/race.Enable", "internal/race.Acquire", "(*internal/sync.Mutex).lockSlow", "internal/sync.runtime_canSpin", "internal/sync.runtime_doSpin", "internal/sync.throw", "internal/sync.runtime_nanotime", "internal/sync.runtime_SemacquireMutex", "sync/atomic.AddInt32", "(*internal/sync.Mutex).Unlock", "internal/race.ReleaseMerge", "(*internal/sync.Mutex).unlockSlow", "internal/sync.fatal", "internal/sync.runtime_Semrelease"], unfollowed := true, recurses := true, apart := false, narrowed := true }
def UidTakesUptoSaid : Prop := uidTakesUptoRow.holds Try.pinned (OpenSpec.upto uidTakesSpec)

/-- 'cubbyholelaw11.UidNil', WHERE WHAT IT READS IS OF BULK AT MOST 1048576: true; the input reads as it did. -/
def uidNilUptoRow : OpenClaim := { program := "ytkpfekchcjmjeaa", sum := "d51256f17a833e8cada874c40a61ebdf69cba476ee91921feed1b993479ff34c", func := "cubbyhole/cubbyholelaw11.UidNil", spec := "uidNil", inPlace := ["sync/atomic.StoreUint32", "sync/atomic.LoadUint32", "sync/atomic.CompareAndSwapUint32", "sync/atomic.AddUint64", "sync/atomic.LoadUint64", "(*internal/sync.Mutex).Lock", "internal/race.Disable", "sync/atomic.CompareAndSwapInt32", "internal/race.Enable", "internal/race.Acquire", "(*internal/sync.Mutex).lockSlow", "internal/sync.runtime_canSpin", "internal/sync.runtime_doSpin", "internal/sync.throw", "internal/sync.runtime_nanotime", "internal/sync.runtime_SemacquireMutex", "sync/atomic.AddInt32", "(*internal/sync.Mutex).Unlock", "internal/race.ReleaseMerge", "(*internal/sync.Mutex).unlockSlow", "internal/sync.fatal", "internal/sync.runtime_Semrelease"], unfollowed := true, recurses := true, apart := false, narrowed := true }
def UidNilUptoSaid : Prop := uidNilUptoRow.holds Try.pinned (OpenSpec.upto uidNilSpec)

end Rows
end Go.Proofs.Ytkpfekchcjmjeaa
