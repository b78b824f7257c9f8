/- sync.Mutex in this translation: its functions and types. -/
import Derived.Test.YthnbmfkmaijibaaProg
import Derived.Conc.MuLib
import Derived.Conc.MuData
import Derived.KernelRfl
namespace Go.Proofs.Ythnbmfkmaijibaa.Locks
open Go.Proofs
abbrev muLink : Go.Conc.Locks.MuLink := { lock := 49, unlock := 50, ilock := 71, iunlock := 72, lockSlow := 79, unlockSlow := 82, disable := 75, enable := 77, acquire := 78, relMerge := 80, cas32 := 76, add32 := 81, tMutex := 99, tIMutex := 97, tPMutex := 118, tPIMutex := 120, tPI32 := 122, tUP := 124, tNoCopy := 94, tU32 := 95 }
theorem muLib : Go.Conc.Locks.MuLib Try.prog muLink :=
  ⟨Try.func49, Try.func50, Try.func71, Try.func72, Try.func75, Try.func77, Try.func78, Try.func80, Try.func76, Try.func81,
   Try.underlying97, Try.runUnderlying97, Try.sizeOf97, Try.isAgg97, Try.zeroValue97,
   Try.underlying99, Try.runUnderlying99, Try.sizeOf99, Try.isAgg99, Try.zeroValue99,
   Try.underlying118, Try.runUnderlying118, Try.sizeOf118, Try.isAgg118, Try.zeroValue118,
   Try.underlying120, Try.runUnderlying120, Try.sizeOf120, Try.isAgg120, Try.zeroValue120,
   Try.underlying122, Try.runUnderlying122, Try.sizeOf122, Try.isAgg122, Try.zeroValue122,
   Try.underlying124, Try.runUnderlying124, Try.sizeOf124, Try.isAgg124, Try.zeroValue124,
   Try.underlying94, Try.runUnderlying94, Try.sizeOf94, Try.isAgg94, Try.zeroValue94,
   Try.underlying21, Try.runUnderlying21, Try.sizeOf21, Try.isAgg21, Try.zeroValue21, by kernel_rfl⟩
end Go.Proofs.Ythnbmfkmaijibaa.Locks
