/- The numbers under which the dump holds the mutex's functions and types, and that they are the library's. -/
import Derived.Test.YtjnaihhkbbeaoaaRows
import Derived.Test.YtjnaihhkbbeaoaaWords
import Derived.Conc.MuLone
import Derived.WalkKit
import Derived.Defers
namespace Go.Proofs.Ytjnaihhkbbeaoaa
open Go.RowKit Go.MuLone

/-- The numbers under which the dump holds the mutex's functions and types. -/
abbrev mu : Go.Conc.Locks.MuLink := { lock := 41, unlock := 42, ilock := 50, iunlock := 51, lockSlow := 67, unlockSlow := 70, disable := 63, enable := 65, acquire := 66, relMerge := 68, cas32 := 64, add32 := 69, tMutex := 70, tIMutex := 68, tPMutex := 96, tPIMutex := 107, tPI32 := 109, tUP := 111, tNoCopy := 66, tU32 := 22 }
theorem muLib : Go.Conc.Locks.MuLib Try.prog mu :=
  ⟨Try.func41, Try.func42, Try.func50, Try.func51, Try.func63, Try.func65, Try.func66, Try.func68, Try.func64, Try.func69, Try.underlying68, Try.runUnderlying68, Try.sizeOf68, Try.isAgg68, Try.zeroValue68, Try.underlying70, Try.runUnderlying70, Try.sizeOf70, Try.isAgg70, Try.zeroValue70, Try.underlying96, Try.runUnderlying96, Try.sizeOf96, Try.isAgg96, Try.zeroValue96, Try.underlying107, Try.runUnderlying107, Try.sizeOf107, Try.isAgg107, Try.zeroValue107, Try.underlying109, Try.runUnderlying109, Try.sizeOf109, Try.isAgg109, Try.zeroValue109, Try.underlying111, Try.runUnderlying111, Try.sizeOf111, Try.isAgg111, Try.zeroValue111, Try.underlying66, Try.runUnderlying66, Try.sizeOf66, Try.isAgg66, Try.zeroValue66, Try.underlying21, Try.runUnderlying21, Try.sizeOf21, Try.isAgg21, Try.zeroValue21, (by kernel_rfl)⟩
end Go.Proofs.Ytjnaihhkbbeaoaa
