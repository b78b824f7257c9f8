/-
  No cell of these rows narrows 'for every input' (looked for: loops, veiled, ifaces, maps, wideKeys, modest, calm, conditions, laid).
  DERIVED. THE GIVEN ROWS OF THIS SEAT. 9 by the template 'for every input the law returns true; each argument reads behind the call as it read before'; 0 by the template 'total and deterministic' (their statements: YthnbmfkmaijibaaTotals.lean).
  GIVEN WITH THE SEED: the statements are not yours to turn. If you find one false, say at which input.
  Laid BY PROGRAM, IN A SANDBOX (cutbox-rows.mjs): the forced cells as the released guide's own fill.sh prints them over the translation 099d1ac44d2a7ed1… (all of the seat's roots in one cut). By AI agents, Wed Nov 11 2026. No macro, syntax, notation, axiom, sorry.
-/
import Derived.Test.YthnbmfkmaijibaaChecked
import GoSem.Claim
import GoSem.ClaimJoined
import GoSem.ClaimMapViews
import Derived.JoinedTies
import Derived.KernelRfl
namespace Go.Proofs.Ythnbmfkmaijibaa
/- THE CELL 'sum', in the pinned program and in every row, IS THE sha256 OF THE DUMP (.gsa) THAT YthnbmfkmaijibaaProg.lean LOADS. Nothing in Lean hashes anything: it is a label: what it is worth is what the hold of that sum in a sandbox is worth. -/
noncomputable def Try.pinned : Pinned := { name := "ythnbmfkmaijibaa", sum := "099d1ac44d2a7ed195466de0f88dff3408fa9afedf4b887eb40fa7e3627a8000", checked := Try.checked }
namespace Rows
def none {H : Type} : Left H := { results := [], args := [] }

/-- 'annexlaw5.DeviceReads': WHATEVER THE INPUT: true; the input reads as it did. -/
def deviceReadsSpec : ChangeSpec := { name := "deviceReads", fn := fun _ => fun
  | [d1, d2] => { results := [.lit (.bool true)], args := [d1, d2] }
  | _ => none }
def deviceReadsRow : OpenClaim := { program := "ythnbmfkmaijibaa", sum := "099d1ac44d2a7ed195466de0f88dff3408fa9afedf4b887eb40fa7e3627a8000", func := "annex/annexlaw5.DeviceReads", spec := "deviceReads", inPlace := ["(*internal/sync.Mutex).Lock", "internal/race.Disable", "sync/atomic.CompareAndSwapInt32", "internal/race.Enable", "internal/race.Acquire", "(*internal/sync.Mutex).lockSlow", "internal/sync.runtime_canSpin", "internal/sync.runtime_doSpin", "internal/sync.throw", "internal/sync.runtime_nanotime", "internal/sync.runtime_SemacquireMutex", "sync/atomic.AddInt32", "(*internal/sync.Mutex).Unlock", "internal/race.ReleaseMerge", "(*internal/sync.Mutex).unlockSlow", "internal/sync.fatal", "internal/sync.runtime_Semrelease"], unfollowed := true, recurses := true, apart := false }
def DeviceReadsSaid : Prop := deviceReadsRow.holds Try.pinned (OpenSpec.ofChange deviceReadsSpec)

/-- ITS FALSE NEIGHBOUR: 'it returns false'. Refute it at one input. -/
def deviceReadsWrong : ChangeSpec := { name := "deviceReads", fn := fun _ => fun
  | [d1, d2] => { results := [.lit (.bool false)], args := [d1, d2] }
  | _ => none }
def DeviceReadsWrongFalsely : Prop := deviceReadsRow.holds Try.pinned (OpenSpec.ofChange deviceReadsWrong)

/-- 'annexlaw5.DeviceAll': WHATEVER THE INPUT: true; the input reads as it did. -/
def deviceAllSpec : ChangeSpec := { name := "deviceAll", fn := fun _ => fun
  | [d1, d2, d3] => { results := [.lit (.bool true)], args := [d1, d2, d3] }
  | _ => none }
def deviceAllRow : OpenClaim := { program := "ythnbmfkmaijibaa", sum := "099d1ac44d2a7ed195466de0f88dff3408fa9afedf4b887eb40fa7e3627a8000", func := "annex/annexlaw5.DeviceAll", spec := "deviceAll", inPlace := ["(*internal/sync.Mutex).Lock", "internal/race.Disable", "sync/atomic.CompareAndSwapInt32", "internal/race.Enable", "internal/race.Acquire", "(*internal/sync.Mutex).lockSlow", "internal/sync.runtime_canSpin", "internal/sync.runtime_doSpin", "internal/sync.throw", "internal/sync.runtime_nanotime", "internal/sync.runtime_SemacquireMutex", "sync/atomic.AddInt32", "(*internal/sync.Mutex).Unlock", "internal/race.ReleaseMerge", "(*internal/sync.Mutex).unlockSlow", "internal/sync.fatal", "internal/sync.runtime_Semrelease"], unfollowed := true, recurses := true, apart := false }
def DeviceAllSaid : Prop := deviceAllRow.holds Try.pinned (OpenSpec.ofChange deviceAllSpec)

/-- ITS FALSE NEIGHBOUR: 'it returns false'. Refute it at one input. -/
def deviceAllWrong : ChangeSpec := { name := "deviceAll", fn := fun _ => fun
  | [d1, d2, d3] => { results := [.lit (.bool false)], args := [d1, d2, d3] }
  | _ => none }
def DeviceAllWrongFalsely : Prop := deviceAllRow.holds Try.pinned (OpenSpec.ofChange deviceAllWrong)

/-- 'annexlaw5.DeviceOwns': WHATEVER THE INPUT: true; the input reads as it did. -/
def deviceOwnsSpec : ChangeSpec := { name := "deviceOwns", fn := fun _ => fun
  | [d1, d2, d3] => { results := [.lit (.bool true)], args := [d1, d2, d3] }
  | _ => none }
def deviceOwnsRow : OpenClaim := { program := "ythnbmfkmaijibaa", sum := "099d1ac44d2a7ed195466de0f88dff3408fa9afedf4b887eb40fa7e3627a8000", func := "annex/annexlaw5.DeviceOwns", spec := "deviceOwns", inPlace := ["(*internal/sync.Mutex).Lock", "internal/race.Disable", "sync/atomic.CompareAndSwapInt32", "internal/race.Enable", "internal/race.Acquire", "(*internal/sync.Mutex).lockSlow", "internal/sync.runtime_canSpin", "internal/sync.runtime_doSpin", "internal/sync.throw", "internal/sync.runtime_nanotime", "internal/sync.runtime_SemacquireMutex", "sync/atomic.AddInt32", "(*internal/sync.Mutex).Unlock", "internal/race.ReleaseMerge", "(*internal/sync.Mutex).unlockSlow", "internal/sync.fatal", "internal/sync.runtime_Semrelease"], unfollowed := true, recurses := true, apart := false }
def DeviceOwnsSaid : Prop := deviceOwnsRow.holds Try.pinned (OpenSpec.ofChange deviceOwnsSpec)

/-- ITS FALSE NEIGHBOUR: 'it returns false'. Refute it at one input. -/
def deviceOwnsWrong : ChangeSpec := { name := "deviceOwns", fn := fun _ => fun
  | [d1, d2, d3] => { results := [.lit (.bool false)], args := [d1, d2, d3] }
  | _ => none }
def DeviceOwnsWrongFalsely : Prop := deviceOwnsRow.holds Try.pinned (OpenSpec.ofChange deviceOwnsWrong)

/-- 'annexlaw5.DeviceCrashes': WHATEVER THE INPUT: true; the input reads as it did. -/
def deviceCrashesSpec : ChangeSpec := { name := "deviceCrashes", fn := fun _ => fun
  | [d1, d2, d3] => { results := [.lit (.bool true)], args := [d1, d2, d3] }
  | _ => none }
def deviceCrashesRow : OpenClaim := { program := "ythnbmfkmaijibaa", sum := "099d1ac44d2a7ed195466de0f88dff3408fa9afedf4b887eb40fa7e3627a8000", func := "annex/annexlaw5.DeviceCrashes", spec := "deviceCrashes", inPlace := ["(*internal/sync.Mutex).Lock", "internal/race.Disable", "sync/atomic.CompareAndSwapInt32", "internal/race.Enable", "internal/race.Acquire", "(*internal/sync.Mutex).lockSlow", "internal/sync.runtime_canSpin", "internal/sync.runtime_doSpin", "internal/sync.throw", "internal/sync.runtime_nanotime", "internal/sync.runtime_SemacquireMutex", "sync/atomic.AddInt32", "(*internal/sync.Mutex).Unlock", "internal/race.ReleaseMerge", "(*internal/sync.Mutex).unlockSlow", "internal/sync.fatal", "internal/sync.runtime_Semrelease"], unfollowed := true, recurses := true, apart := false }
def DeviceCrashesSaid : Prop := deviceCrashesRow.holds Try.pinned (OpenSpec.ofChange deviceCrashesSpec)

/-- ITS FALSE NEIGHBOUR: 'it returns false'. Refute it at one input. -/
def deviceCrashesWrong : ChangeSpec := { name := "deviceCrashes", fn := fun _ => fun
  | [d1, d2, d3] => { results := [.lit (.bool false)], args := [d1, d2, d3] }
  | _ => none }
def DeviceCrashesWrongFalsely : Prop := deviceCrashesRow.holds Try.pinned (OpenSpec.ofChange deviceCrashesWrong)

/-- 'annexlaw5.DeviceImages': WHATEVER THE INPUT: true; the input reads as it did. -/
def deviceImagesSpec : ChangeSpec := { name := "deviceImages", fn := fun _ => fun
  | [d1, d2] => { results := [.lit (.bool true)], args := [d1, d2] }
  | _ => none }
def deviceImagesRow : OpenClaim := { program := "ythnbmfkmaijibaa", sum := "099d1ac44d2a7ed195466de0f88dff3408fa9afedf4b887eb40fa7e3627a8000", func := "annex/annexlaw5.DeviceImages", spec := "deviceImages", inPlace := ["(*internal/sync.Mutex).Lock", "internal/race.Disable", "sync/atomic.CompareAndSwapInt32", "internal/race.Enable", "internal/race.Acquire", "(*internal/sync.Mutex).lockSlow", "internal/sync.runtime_canSpin", "internal/sync.runtime_doSpin", "internal/sync.throw", "internal/sync.runtime_nanotime", "internal/sync.runtime_SemacquireMutex", "sync/atomic.AddInt32", "(*internal/sync.Mutex).Unlock", "internal/race.ReleaseMerge", "(*internal/sync.Mutex).unlockSlow", "internal/sync.fatal", "internal/sync.runtime_Semrelease"], unfollowed := true, recurses := true, apart := false }
def DeviceImagesSaid : Prop := deviceImagesRow.holds Try.pinned (OpenSpec.ofChange deviceImagesSpec)

/-- ITS FALSE NEIGHBOUR: 'it returns false'. Refute it at one input. -/
def deviceImagesWrong : ChangeSpec := { name := "deviceImages", fn := fun _ => fun
  | [d1, d2] => { results := [.lit (.bool false)], args := [d1, d2] }
  | _ => none }
def DeviceImagesWrongFalsely : Prop := deviceImagesRow.holds Try.pinned (OpenSpec.ofChange deviceImagesWrong)

/-- 'annexlaw5.DeviceArms': WHATEVER THE INPUT: true; the input reads as it did. -/
def deviceArmsSpec : ChangeSpec := { name := "deviceArms", fn := fun _ => fun
  | [d1, d2, d3] => { results := [.lit (.bool true)], args := [d1, d2, d3] }
  | _ => none }
def deviceArmsRow : OpenClaim := { program := "ythnbmfkmaijibaa", sum := "099d1ac44d2a7ed195466de0f88dff3408fa9afedf4b887eb40fa7e3627a8000", func := "annex/annexlaw5.DeviceArms", spec := "deviceArms", inPlace := ["(*internal/sync.Mutex).Lock", "internal/race.Disable", "sync/atomic.CompareAndSwapInt32", "internal/race.Enable", "internal/race.Acquire", "(*internal/sync.Mutex).lockSlow", "internal/sync.runtime_canSpin", "internal/sync.runtime_doSpin", "internal/sync.throw", "internal/sync.runtime_nanotime", "internal/sync.runtime_SemacquireMutex", "sync/atomic.AddInt32", "(*internal/sync.Mutex).Unlock", "internal/race.ReleaseMerge", "(*internal/sync.Mutex).unlockSlow", "internal/sync.fatal", "internal/sync.runtime_Semrelease"], unfollowed := true, recurses := true, apart := false }
def DeviceArmsSaid : Prop := deviceArmsRow.holds Try.pinned (OpenSpec.ofChange deviceArmsSpec)

/-- ITS FALSE NEIGHBOUR: 'it returns false'. Refute it at one input. -/
def deviceArmsWrong : ChangeSpec := { name := "deviceArms", fn := fun _ => fun
  | [d1, d2, d3] => { results := [.lit (.bool false)], args := [d1, d2, d3] }
  | _ => none }
def DeviceArmsWrongFalsely : Prop := deviceArmsRow.holds Try.pinned (OpenSpec.ofChange deviceArmsWrong)

/-- 'annexlaw5.DeviceMany': WHATEVER THE INPUT: true; the input reads as it did. -/
def deviceManySpec : ChangeSpec := { name := "deviceMany", fn := fun _ => fun
  | [d1, d2, d3] => { results := [.lit (.bool true)], args := [d1, d2, d3] }
  | _ => none }
def deviceManyRow : OpenClaim := { program := "ythnbmfkmaijibaa", sum := "099d1ac44d2a7ed195466de0f88dff3408fa9afedf4b887eb40fa7e3627a8000", func := "annex/annexlaw5.DeviceMany", spec := "deviceMany", inPlace := ["(*internal/sync.Mutex).Lock", "internal/race.Disable", "sync/atomic.CompareAndSwapInt32", "internal/race.Enable", "internal/race.Acquire", "(*internal/sync.Mutex).lockSlow", "internal/sync.runtime_canSpin", "internal/sync.runtime_doSpin", "internal/sync.throw", "internal/sync.runtime_nanotime", "internal/sync.runtime_SemacquireMutex", "sync/atomic.AddInt32", "(*internal/sync.Mutex).Unlock", "internal/race.ReleaseMerge", "(*internal/sync.Mutex).unlockSlow", "internal/sync.fatal", "internal/sync.runtime_Semrelease"], unfollowed := true, recurses := true, apart := false }
def DeviceManySaid : Prop := deviceManyRow.holds Try.pinned (OpenSpec.ofChange deviceManySpec)

/-- ITS FALSE NEIGHBOUR: 'it returns false'. Refute it at one input. -/
def deviceManyWrong : ChangeSpec := { name := "deviceMany", fn := fun _ => fun
  | [d1, d2, d3] => { results := [.lit (.bool false)], args := [d1, d2, d3] }
  | _ => none }
def DeviceManyWrongFalsely : Prop := deviceManyRow.holds Try.pinned (OpenSpec.ofChange deviceManyWrong)

/-- 'annexlaw5.DevicePlays': WHATEVER THE INPUT: true; the input reads as it did. -/
def devicePlaysSpec : ChangeSpec := { name := "devicePlays", fn := fun _ => fun
  | [d] => { results := [.lit (.bool true)], args := [d] }
  | _ => none }
def devicePlaysRow : OpenClaim := { program := "ythnbmfkmaijibaa", sum := "099d1ac44d2a7ed195466de0f88dff3408fa9afedf4b887eb40fa7e3627a8000", func := "annex/annexlaw5.DevicePlays", spec := "devicePlays", inPlace := ["(*internal/sync.Mutex).Lock", "internal/race.Disable", "sync/atomic.CompareAndSwapInt32", "internal/race.Enable", "internal/race.Acquire", "(*internal/sync.Mutex).lockSlow", "internal/sync.runtime_canSpin", "internal/sync.runtime_doSpin", "internal/sync.throw", "internal/sync.runtime_nanotime", "internal/sync.runtime_SemacquireMutex", "sync/atomic.AddInt32", "(*internal/sync.Mutex).Unlock", "internal/race.ReleaseMerge", "(*internal/sync.Mutex).unlockSlow", "internal/sync.fatal", "internal/sync.runtime_Semrelease"], unfollowed := true, recurses := true, apart := false }
def DevicePlaysSaid : Prop := devicePlaysRow.holds Try.pinned (OpenSpec.ofChange devicePlaysSpec)

/-- ITS FALSE NEIGHBOUR: 'it returns false'. Refute it at one input. -/
def devicePlaysWrong : ChangeSpec := { name := "devicePlays", fn := fun _ => fun
  | [d] => { results := [.lit (.bool false)], args := [d] }
  | _ => none }
def DevicePlaysWrongFalsely : Prop := devicePlaysRow.holds Try.pinned (OpenSpec.ofChange devicePlaysWrong)

/-- 'annexlaw5.DeviceTwins': WHATEVER THE INPUT: true; the input reads as it did. -/
def deviceTwinsSpec : ChangeSpec := { name := "deviceTwins", fn := fun _ => fun
  | [d1, d2, d3, d4] => { results := [.lit (.bool true)], args := [d1, d2, d3, d4] }
  | _ => none }
def deviceTwinsRow : OpenClaim := { program := "ythnbmfkmaijibaa", sum := "099d1ac44d2a7ed195466de0f88dff3408fa9afedf4b887eb40fa7e3627a8000", func := "annex/annexlaw5.DeviceTwins", spec := "deviceTwins", inPlace := ["(*internal/sync.Mutex).Lock", "internal/race.Disable", "sync/atomic.CompareAndSwapInt32", "internal/race.Enable", "internal/race.Acquire", "(*internal/sync.Mutex).lockSlow", "internal/sync.runtime_canSpin", "internal/sync.runtime_doSpin", "internal/sync.throw", "internal/sync.runtime_nanotime", "internal/sync.runtime_SemacquireMutex", "sync/atomic.AddInt32", "(*internal/sync.Mutex).Unlock", "internal/race.ReleaseMerge", "(*internal/sync.Mutex).unlockSlow", "internal/sync.fatal", "internal/sync.runtime_Semrelease"], unfollowed := true, recurses := true, apart := false }
def DeviceTwinsSaid : Prop := deviceTwinsRow.holds Try.pinned (OpenSpec.ofChange deviceTwinsSpec)

/-- ITS FALSE NEIGHBOUR: 'it returns false'. Refute it at one input. -/
def deviceTwinsWrong : ChangeSpec := { name := "deviceTwins", fn := fun _ => fun
  | [d1, d2, d3, d4] => { results := [.lit (.bool false)], args := [d1, d2, d3, d4] }
  | _ => none }
def DeviceTwinsWrongFalsely : Prop := deviceTwinsRow.holds Try.pinned (OpenSpec.ofChange deviceTwinsWrong)

/- THE SECOND FORM. 'bulk': how many values and letters a reading holds, each counted each time it is reached (what is shared counts as often as it is met; a slice's spare places count too). A statement '..UptoSaid' is the law's where the arguments, and the package variables that the reading takes, are together of bulk at most 1048576: NARROWER than '..Said'. Prove '..Said' where nothing that the law and all that it calls make is longer than what came in: it says more and counts as full. Else prove '..UptoSaid'. A law counts once. -/
mutual
def uptoBulk {H : Type} : DataW H → Nat
  | .lit (.string bytes) => bytes.length + 1
  | .lit _ => 1
  | .nil => 1
  | .ptr d => uptoBulk d + 1
  | .slice elems spare => uptoBulkAll elems + uptoBulkAll spare + 1
  | .agg parts => uptoBulkAll parts + 1
  | .iface _ d => uptoBulk d + 1
  | .map entries => uptoBulkEntries entries + 1
  | .held _ => 1
def uptoBulkAll {H : Type} : List (DataW H) → Nat
  | [] => 0
  | d :: r => uptoBulk d + uptoBulkAll r
def uptoBulkEntries {H : Type} : List (Lit × DataW H) → Nat
  | [] => 0
  | x :: r => uptoBulkEntry x + uptoBulkEntries r
def uptoBulkEntry {H : Type} : Lit × DataW H → Nat
  | (.string bytes, d) => bytes.length + uptoBulk d + 1
  | (_, d) => uptoBulk d + 1
 end
def uptoSmall : (H : Type) → List (DataW H) → Bool := fun _ ds => decide (uptoBulkAll ds ≤ 1048576)
def OpenSpec.upto (s : _root_.Go.ChangeSpec) : _root_.Go.OpenSpec := { _root_.Go.OpenSpec.ofChange s with cond := some uptoSmall }

/-- 'annexlaw5.DeviceReads', WHERE WHAT IT READS IS OF BULK AT MOST 1048576: true; the input reads as it did. -/
def deviceReadsUptoRow : OpenClaim := { program := "ythnbmfkmaijibaa", sum := "099d1ac44d2a7ed195466de0f88dff3408fa9afedf4b887eb40fa7e3627a8000", func := "annex/annexlaw5.DeviceReads", spec := "deviceReads", inPlace := ["(*internal/sync.Mutex).Lock", "internal/race.Disable", "sync/atomic.CompareAndSwapInt32", "internal/race.Enable", "internal/race.Acquire", "(*internal/sync.Mutex).lockSlow", "internal/sync.runtime_canSpin", "internal/sync.runtime_doSpin", "internal/sync.throw", "internal/sync.runtime_nanotime", "internal/sync.runtime_SemacquireMutex", "sync/atomic.AddInt32", "(*internal/sync.Mutex).Unlock", "internal/race.ReleaseMerge", "(*internal/sync.Mutex).unlockSlow", "internal/sync.fatal", "internal/sync.runtime_Semrelease"], unfollowed := true, recurses := true, apart := false, narrowed := true }
def DeviceReadsUptoSaid : Prop := deviceReadsUptoRow.holds Try.pinned (OpenSpec.upto deviceReadsSpec)

/-- 'annexlaw5.DeviceAll', WHERE WHAT IT READS IS OF BULK AT MOST 1048576: true; the input reads as it did. -/
def deviceAllUptoRow : OpenClaim := { program := "ythnbmfkmaijibaa", sum := "099d1ac44d2a7ed195466de0f88dff3408fa9afedf4b887eb40fa7e3627a8000", func := "annex/annexlaw5.DeviceAll", spec := "deviceAll", inPlace := ["(*internal/sync.Mutex).Lock", "internal/race.Disable", "sync/atomic.CompareAndSwapInt32", "internal/race.Enable", "internal/race.Acquire", "(*internal/sync.Mutex).lockSlow", "internal/sync.runtime_canSpin", "internal/sync.runtime_doSpin", "internal/sync.throw", "internal/sync.runtime_nanotime", "internal/sync.runtime_SemacquireMutex", "sync/atomic.AddInt32", "(*internal/sync.Mutex).Unlock", "internal/race.ReleaseMerge", "(*internal/sync.Mutex).unlockSlow", "internal/sync.fatal", "internal/sync.runtime_Semrelease"], unfollowed := true, recurses := true, apart := false, narrowed := true }
def DeviceAllUptoSaid : Prop := deviceAllUptoRow.holds Try.pinned (OpenSpec.upto deviceAllSpec)

/-- 'annexlaw5.DeviceOwns', WHERE WHAT IT READS IS OF BULK AT MOST 1048576: true; the input reads as it did. -/
def deviceOwnsUptoRow : OpenClaim := { program := "ythnbmfkmaijibaa", sum := "099d1ac44d2a7ed195466de0f88dff3408fa9afedf4b887eb40fa7e3627a8000", func := "annex/annexlaw5.DeviceOwns", spec := "deviceOwns", inPlace := ["(*internal/sync.Mutex).Lock", "internal/race.Disable", "sync/atomic.CompareAndSwapInt32", "internal/race.Enable", "internal/race.Acquire", "(*internal/sync.Mutex).lockSlow", "internal/sync.runtime_canSpin", "internal/sync.runtime_doSpin", "internal/sync.throw", "internal/sync.runtime_nanotime", "internal/sync.runtime_SemacquireMutex", "sync/atomic.AddInt32", "(*internal/sync.Mutex).Unlock", "internal/race.ReleaseMerge", "(*internal/sync.Mutex).unlockSlow", "internal/sync.fatal", "internal/sync.runtime_Semrelease"], unfollowed := true, recurses := true, apart := false, narrowed := true }
def DeviceOwnsUptoSaid : Prop := deviceOwnsUptoRow.holds Try.pinned (OpenSpec.upto deviceOwnsSpec)

/-- 'annexlaw5.DeviceCrashes', WHERE WHAT IT READS IS OF BULK AT MOST 1048576: true; the input reads as it did. -/
def deviceCrashesUptoRow : OpenClaim := { program := "ythnbmfkmaijibaa", sum := "099d1ac44d2a7ed195466de0f88dff3408fa9afedf4b887eb40fa7e3627a8000", func := "annex/annexlaw5.DeviceCrashes", spec := "deviceCrashes", inPlace := ["(*internal/sync.Mutex).Lock", "internal/race.Disable", "sync/atomic.CompareAndSwapInt32", "internal/race.Enable", "internal/race.Acquire", "(*internal/sync.Mutex).lockSlow", "internal/sync.runtime_canSpin", "internal/sync.runtime_doSpin", "internal/sync.throw", "internal/sync.runtime_nanotime", "internal/sync.runtime_SemacquireMutex", "sync/atomic.AddInt32", "(*internal/sync.Mutex).Unlock", "internal/race.ReleaseMerge", "(*internal/sync.Mutex).unlockSlow", "internal/sync.fatal", "internal/sync.runtime_Semrelease"], unfollowed := true, recurses := true, apart := false, narrowed := true }
def DeviceCrashesUptoSaid : Prop := deviceCrashesUptoRow.holds Try.pinned (OpenSpec.upto deviceCrashesSpec)

/-- 'annexlaw5.DeviceImages', WHERE WHAT IT READS IS OF BULK AT MOST 1048576: true; the input reads as it did. -/
def deviceImagesUptoRow : OpenClaim := { program := "ythnbmfkmaijibaa", sum := "099d1ac44d2a7ed195466de0f88dff3408fa9afedf4b887eb40fa7e3627a8000", func := "annex/annexlaw5.DeviceImages", spec := "deviceImages", inPlace := ["(*internal/sync.Mutex).Lock", "internal/race.Disable", "sync/atomic.CompareAndSwapInt32", "internal/race.Enable", "internal/race.Acquire", "(*internal/sync.Mutex).lockSlow", "internal/sync.runtime_canSpin", "internal/sync.runtime_doSpin", "internal/sync.throw", "internal/sync.runtime_nanotime", "internal/sync.runtime_SemacquireMutex", "sync/atomic.AddInt32", "(*internal/sync.Mutex).Unlock", "internal/race.ReleaseMerge", "(*internal/sync.Mutex).unlockSlow", "internal/sync.fatal", "internal/sync.runtime_Semrelease"], unfollowed := true, recurses := true, apart := false, narrowed := true }
def DeviceImagesUptoSaid : Prop := deviceImagesUptoRow.holds Try.pinned (OpenSpec.upto deviceImagesSpec)

/-- 'annexlaw5.DeviceArms', WHERE WHAT IT READS IS OF BULK AT MOST 1048576: true; the input reads as it did. -/
def deviceArmsUptoRow : OpenClaim := { program := "ythnbmfkmaijibaa", sum := "099d1ac44d2a7ed195466de0f88dff3408fa9afedf4b887eb40fa7e3627a8000", func := "annex/annexlaw5.DeviceArms", spec := "deviceArms", inPlace := ["(*internal/sync.Mutex).Lock", "internal/race.Disable", "sync/atomic.CompareAndSwapInt32", "internal/race.Enable", "internal/race.Acquire", "(*internal/sync.Mutex).lockSlow", "internal/sync.runtime_canSpin", "internal/sync.runtime_doSpin", "internal/sync.throw", "internal/sync.runtime_nanotime", "internal/sync.runtime_SemacquireMutex", "sync/atomic.AddInt32", "(*internal/sync.Mutex).Unlock", "internal/race.ReleaseMerge", "(*internal/sync.Mutex).unlockSlow", "internal/sync.fatal", "internal/sync.runtime_Semrelease"], unfollowed := true, recurses := true, apart := false, narrowed := true }
def DeviceArmsUptoSaid : Prop := deviceArmsUptoRow.holds Try.pinned (OpenSpec.upto deviceArmsSpec)

/-- 'annexlaw5.DeviceMany', WHERE WHAT IT READS IS OF BULK AT MOST 1048576: true; the input reads as it did. -/
def deviceManyUptoRow : OpenClaim := { program := "ythnbmfkmaijibaa", sum := "099d1ac44d2a7ed195466de0f88dff3408fa9afedf4b887eb40fa7e3627a8000", func := "annex/annexlaw5.DeviceMany", spec := "deviceMany", inPlace := ["(*internal/sync.Mutex).Lock", "internal/race.Disable", "sync/atomic.CompareAndSwapInt32", "internal/race.Enable", "internal/race.Acquire", "(*internal/sync.Mutex).lockSlow", "internal/sync.runtime_canSpin", "internal/sync.runtime_doSpin", "internal/sync.throw", "internal/sync.runtime_nanotime", "internal/sync.runtime_SemacquireMutex", "sync/atomic.AddInt32", "(*internal/sync.Mutex).Unlock", "internal/race.ReleaseMerge", "(*internal/sync.Mutex).unlockSlow", "internal/sync.fatal", "internal/sync.runtime_Semrelease"], unfollowed := true, recurses := true, apart := false, narrowed := true }
def DeviceManyUptoSaid : Prop := deviceManyUptoRow.holds Try.pinned (OpenSpec.upto deviceManySpec)

/-- 'annexlaw5.DevicePlays', WHERE WHAT IT READS IS OF BULK AT MOST 1048576: true; the input reads as it did. -/
def devicePlaysUptoRow : OpenClaim := { program := "ythnbmfkmaijibaa", sum := "099d1ac44d2a7ed195466de0f88dff3408fa9afedf4b887eb40fa7e3627a8000", func := "annex/annexlaw5.DevicePlays", spec := "devicePlays", inPlace := ["(*internal/sync.Mutex).Lock", "internal/race.Disable", "sync/atomic.CompareAndSwapInt32", "internal/race.Enable", "internal/race.Acquire", "(*internal/sync.Mutex).lockSlow", "internal/sync.runtime_canSpin", "internal/sync.runtime_doSpin", "internal/sync.throw", "internal/sync.runtime_nanotime", "internal/sync.runtime_SemacquireMutex", "sync/atomic.AddInt32", "(*internal/sync.Mutex).Unlock", "internal/race.ReleaseMerge", "(*internal/sync.Mutex).unlockSlow", "internal/sync.fatal", "internal/sync.runtime_Semrelease"], unfollowed := true, recurses := true, apart := false, narrowed := true }
def DevicePlaysUptoSaid : Prop := devicePlaysUptoRow.holds Try.pinned (OpenSpec.upto devicePlaysSpec)

/-- 'annexlaw5.DeviceTwins', WHERE WHAT IT READS IS OF BULK AT MOST 1048576: true; the input reads as it did. -/
def deviceTwinsUptoRow : OpenClaim := { program := "ythnbmfkmaijibaa", sum := "099d1ac44d2a7ed195466de0f88dff3408fa9afedf4b887eb40fa7e3627a8000", func := "annex/annexlaw5.DeviceTwins", spec := "deviceTwins", inPlace := ["(*internal/sync.Mutex).Lock", "internal/race.Disable", "sync/atomic.CompareAndSwapInt32", "internal/race.Enable", "internal/race.Acquire", "(*internal/sync.Mutex).lockSlow", "internal/sync.runtime_canSpin", "internal/sync.runtime_doSpin", "internal/sync.throw", "internal/sync.runtime_nanotime", "internal/sync.runtime_SemacquireMutex", "sync/atomic.AddInt32", "(*internal/sync.Mutex).Unlock", "internal/race.ReleaseMerge", "(*internal/sync.Mutex).unlockSlow", "internal/sync.fatal", "internal/sync.runtime_Semrelease"], unfollowed := true, recurses := true, apart := false, narrowed := true }
def DeviceTwinsUptoSaid : Prop := deviceTwinsUptoRow.holds Try.pinned (OpenSpec.upto deviceTwinsSpec)

end Rows
end Go.Proofs.Ythnbmfkmaijibaa
