/-
  NARROWER THAN 'FOR EVERY INPUT', by the rows' own cells (each row's printed sentence says how): JournalOwn: laid · JournalWhole: laid · JournalEvery: laid · JournalSaves: laid · JournalSteps: laid · JournalAgain: laid · JournalPlays: laid · JournalOpens: laid.
  DERIVED. THE GIVEN ROWS OF THIS SEAT. 8 by the template 'for every input the law returns true; each argument reads behind the call as it read before'; 0 by the template 'total and deterministic' (their statements: YtmafafingdpopaaGreatDoorTotals.lean).
  GIVEN WITH THE SEED: the statements are not yours to turn. If you find one false, say at which input.
  Laid BY PROGRAM, IN A SANDBOX (cutbox-rows.mjs): the forced cells as the released guide's own fill.sh prints them over the translation d0b8fafff5023e10… (all of the seat's roots in one cut). By AI agents, Wed Nov 11 2026. No macro, syntax, notation, axiom, sorry.
-/
import Derived.Test.YtmafafingdpopaaGreatDoorChecked
import GoSem.Claim
import GoSem.ClaimJoined
import GoSem.ClaimMapViews
import Derived.JoinedTies
import Derived.KernelRfl
namespace Go.Proofs.YtmafafingdpopaaGreatDoor
/- THE CELL 'sum', in the pinned program and in every row, IS THE sha256 OF THE DUMP (.gsa) THAT YtmafafingdpopaaGreatDoorProg.lean LOADS. Nothing in Lean hashes anything: it is a label: what it is worth is what the hold of that sum in a sandbox is worth. -/
noncomputable def Tryz.pinned : Pinned := { name := "ytmafafingdpopaagreatdoor", sum := "d0b8fafff5023e101d44d435143019b18dbba447db3a8ed867020961336e0621", checked := Tryz.checked }
namespace Rows
def none {H : Type} : Left H := { results := [], args := [] }

/- WHAT THE LISTED PACKAGE-LEVEL VARIABLES READ AS WHEN THE CALL BEGINS. Each datum BY PROGRAM (the guide's laid-datum.mjs) off the statement by which the dump's own 'gosem.cut.vars' lays the variable. In a bare row this is a premise. The card (YtmafafingdpopaaGreatDoorCards.lean) ties it to the program's text. -/
def laid_errors_errorType {H : Type} : DataW H := .iface "internal/reflectlite.rtype" (.agg [.ptr (.lit (.string [101, 114, 114, 111, 114]))])
def laid_annex_bits_errTrouble {H : Type} : DataW H := .iface "*errors.errorString" (.ptr (.agg [.lit (.string [98, 105, 116, 115, 58, 32, 110, 111, 32, 115, 117, 99, 104, 32, 102, 105, 101, 108, 100])]))

/-- 'annexlaw7.JournalOwn': WHATEVER THE INPUT: true; the input reads as it did. -/
def journalOwnSpec : ChangeSpec := { name := "journalOwn", fn := fun _ => fun
  | [d] => { results := [.lit (.bool true)], args := [d] }
  | _ => none }
def journalOwnRow : OpenClaim := { program := "ytmafafingdpopaagreatdoor", sum := "d0b8fafff5023e101d44d435143019b18dbba447db3a8ed867020961336e0621", func := "annex/annexlaw7.JournalOwn", spec := "journalOwn", inPlace := ["(*internal/sync.Mutex).Lock", "internal/race.Disable", "sync/atomic.CompareAndSwapInt32", "internal/race.Enable", "internal/race.Acquire", "(*internal/sync.Mutex).lockSlow", "internal/sync.runtime_canSpin", "internal/sync.runtime_doSpin", "internal/sync.throw", "internal/sync.runtime_nanotime", "internal/sync.runtime_SemacquireMutex", "sync/atomic.AddInt32", "(*internal/sync.Mutex).Unlock", "internal/race.ReleaseMerge", "(*internal/sync.Mutex).unlockSlow", "internal/sync.fatal", "internal/sync.runtime_Semrelease", "internal/reflectlite.ValueOf", "(internal/reflectlite.Value).Type", "(internal/reflectlite.Value).IsNil", "internal/reflectlite.TypeOf", "(internal/reflectlite.Value).Elem", "(internal/reflectlite.Value).Set"], unfollowed := true, recurses := true, named := ["errors.errorType", "annex/bits.errTrouble"], apart := false, laid := [("errors.errorType", laid_errors_errorType), ("annex/bits.errTrouble", laid_annex_bits_errTrouble)] }
def JournalOwnSaid : Prop := journalOwnRow.holds Tryz.pinned (OpenSpec.ofChange journalOwnSpec)

/-- ITS FALSE NEIGHBOUR: 'it returns false'. Refute it at one input. -/
def journalOwnWrong : ChangeSpec := { name := "journalOwn", fn := fun _ => fun
  | [d] => { results := [.lit (.bool false)], args := [d] }
  | _ => none }
def JournalOwnWrongFalsely : Prop := journalOwnRow.holds Tryz.pinned (OpenSpec.ofChange journalOwnWrong)

/-- 'annexlaw7.JournalWhole': WHATEVER THE INPUT: true; the input reads as it did. -/
def journalWholeSpec : ChangeSpec := { name := "journalWhole", fn := fun _ => fun
  | [d1, d2, d3, d4, d5, d6] => { results := [.lit (.bool true)], args := [d1, d2, d3, d4, d5, d6] }
  | _ => none }
def journalWholeRow : OpenClaim := { program := "ytmafafingdpopaagreatdoor", sum := "d0b8fafff5023e101d44d435143019b18dbba447db3a8ed867020961336e0621", func := "annex/annexlaw7.JournalWhole", spec := "journalWhole", inPlace := ["(*internal/sync.Mutex).Lock", "internal/race.Disable", "sync/atomic.CompareAndSwapInt32", "internal/race.Enable", "internal/race.Acquire", "(*internal/sync.Mutex).lockSlow", "internal/sync.runtime_canSpin", "internal/sync.runtime_doSpin", "internal/sync.throw", "internal/sync.runtime_nanotime", "internal/sync.runtime_SemacquireMutex", "sync/atomic.AddInt32", "(*internal/sync.Mutex).Unlock", "internal/race.ReleaseMerge", "(*internal/sync.Mutex).unlockSlow", "internal/sync.fatal", "internal/sync.runtime_Semrelease", "internal/reflectlite.ValueOf", "(internal/reflectlite.Value).Type", "(internal/reflectlite.Value).IsNil", "internal/reflectlite.TypeOf", "(internal/reflectlite.Value).Elem", "(internal/reflectlite.Value).Set"], unfollowed := true, recurses := true, named := ["errors.errorType", "annex/bits.errTrouble"], apart := false, laid := [("errors.errorType", laid_errors_errorType), ("annex/bits.errTrouble", laid_annex_bits_errTrouble)] }
def JournalWholeSaid : Prop := journalWholeRow.holds Tryz.pinned (OpenSpec.ofChange journalWholeSpec)

/-- ITS FALSE NEIGHBOUR: 'it returns false'. Refute it at one input. -/
def journalWholeWrong : ChangeSpec := { name := "journalWhole", fn := fun _ => fun
  | [d1, d2, d3, d4, d5, d6] => { results := [.lit (.bool false)], args := [d1, d2, d3, d4, d5, d6] }
  | _ => none }
def JournalWholeWrongFalsely : Prop := journalWholeRow.holds Tryz.pinned (OpenSpec.ofChange journalWholeWrong)

/-- 'annexlaw7.JournalEvery': WHATEVER THE INPUT: true; the input reads as it did. -/
def journalEverySpec : ChangeSpec := { name := "journalEvery", fn := fun _ => fun
  | [d1, d2, d3] => { results := [.lit (.bool true)], args := [d1, d2, d3] }
  | _ => none }
def journalEveryRow : OpenClaim := { program := "ytmafafingdpopaagreatdoor", sum := "d0b8fafff5023e101d44d435143019b18dbba447db3a8ed867020961336e0621", func := "annex/annexlaw7.JournalEvery", spec := "journalEvery", inPlace := ["(*internal/sync.Mutex).Lock", "internal/race.Disable", "sync/atomic.CompareAndSwapInt32", "internal/race.Enable", "internal/race.Acquire", "(*internal/sync.Mutex).lockSlow", "internal/sync.runtime_canSpin", "internal/sync.runtime_doSpin", "internal/sync.throw", "internal/sync.runtime_nanotime", "internal/sync.runtime_SemacquireMutex", "sync/atomic.AddInt32", "(*internal/sync.Mutex).Unlock", "internal/race.ReleaseMerge", "(*internal/sync.Mutex).unlockSlow", "internal/sync.fatal", "internal/sync.runtime_Semrelease", "internal/reflectlite.ValueOf", "(internal/reflectlite.Value).Type", "(internal/reflectlite.Value).IsNil", "internal/reflectlite.TypeOf", "(internal/reflectlite.Value).Elem", "(internal/reflectlite.Value).Set"], unfollowed := true, recurses := true, named := ["errors.errorType", "annex/bits.errTrouble"], apart := false, laid := [("errors.errorType", laid_errors_errorType), ("annex/bits.errTrouble", laid_annex_bits_errTrouble)] }
def JournalEverySaid : Prop := journalEveryRow.holds Tryz.pinned (OpenSpec.ofChange journalEverySpec)

/-- ITS FALSE NEIGHBOUR: 'it returns false'. Refute it at one input. -/
def journalEveryWrong : ChangeSpec := { name := "journalEvery", fn := fun _ => fun
  | [d1, d2, d3] => { results := [.lit (.bool false)], args := [d1, d2, d3] }
  | _ => none }
def JournalEveryWrongFalsely : Prop := journalEveryRow.holds Tryz.pinned (OpenSpec.ofChange journalEveryWrong)

/-- 'annexlaw7.JournalSaves': WHATEVER THE INPUT: true; the input reads as it did. -/
def journalSavesSpec : ChangeSpec := { name := "journalSaves", fn := fun _ => fun
  | [d1, d2] => { results := [.lit (.bool true)], args := [d1, d2] }
  | _ => none }
def journalSavesRow : OpenClaim := { program := "ytmafafingdpopaagreatdoor", sum := "d0b8fafff5023e101d44d435143019b18dbba447db3a8ed867020961336e0621", func := "annex/annexlaw7.JournalSaves", spec := "journalSaves", inPlace := ["(*internal/sync.Mutex).Lock", "internal/race.Disable", "sync/atomic.CompareAndSwapInt32", "internal/race.Enable", "internal/race.Acquire", "(*internal/sync.Mutex).lockSlow", "internal/sync.runtime_canSpin", "internal/sync.runtime_doSpin", "internal/sync.throw", "internal/sync.runtime_nanotime", "internal/sync.runtime_SemacquireMutex", "sync/atomic.AddInt32", "(*internal/sync.Mutex).Unlock", "internal/race.ReleaseMerge", "(*internal/sync.Mutex).unlockSlow", "internal/sync.fatal", "internal/sync.runtime_Semrelease", "internal/reflectlite.ValueOf", "(internal/reflectlite.Value).Type", "(internal/reflectlite.Value).IsNil", "internal/reflectlite.TypeOf", "(internal/reflectlite.Value).Elem", "(internal/reflectlite.Value).Set"], unfollowed := true, recurses := true, named := ["errors.errorType", "annex/bits.errTrouble"], apart := false, laid := [("errors.errorType", laid_errors_errorType), ("annex/bits.errTrouble", laid_annex_bits_errTrouble)] }
def JournalSavesSaid : Prop := journalSavesRow.holds Tryz.pinned (OpenSpec.ofChange journalSavesSpec)

/-- ITS FALSE NEIGHBOUR: 'it returns false'. Refute it at one input. -/
def journalSavesWrong : ChangeSpec := { name := "journalSaves", fn := fun _ => fun
  | [d1, d2] => { results := [.lit (.bool false)], args := [d1, d2] }
  | _ => none }
def JournalSavesWrongFalsely : Prop := journalSavesRow.holds Tryz.pinned (OpenSpec.ofChange journalSavesWrong)

/-- 'annexlaw7.JournalSteps': WHATEVER THE INPUT: true; the input reads as it did. -/
def journalStepsSpec : ChangeSpec := { name := "journalSteps", fn := fun _ => fun
  | [d1, d2, d3, d4, d5] => { results := [.lit (.bool true)], args := [d1, d2, d3, d4, d5] }
  | _ => none }
def journalStepsRow : OpenClaim := { program := "ytmafafingdpopaagreatdoor", sum := "d0b8fafff5023e101d44d435143019b18dbba447db3a8ed867020961336e0621", func := "annex/annexlaw7.JournalSteps", spec := "journalSteps", inPlace := ["(*internal/sync.Mutex).Lock", "internal/race.Disable", "sync/atomic.CompareAndSwapInt32", "internal/race.Enable", "internal/race.Acquire", "(*internal/sync.Mutex).lockSlow", "internal/sync.runtime_canSpin", "internal/sync.runtime_doSpin", "internal/sync.throw", "internal/sync.runtime_nanotime", "internal/sync.runtime_SemacquireMutex", "sync/atomic.AddInt32", "(*internal/sync.Mutex).Unlock", "internal/race.ReleaseMerge", "(*internal/sync.Mutex).unlockSlow", "internal/sync.fatal", "internal/sync.runtime_Semrelease", "internal/reflectlite.ValueOf", "(internal/reflectlite.Value).Type", "(internal/reflectlite.Value).IsNil", "internal/reflectlite.TypeOf", "(internal/reflectlite.Value).Elem", "(internal/reflectlite.Value).Set"], unfollowed := true, recurses := true, named := ["errors.errorType", "annex/bits.errTrouble"], apart := false, laid := [("errors.errorType", laid_errors_errorType), ("annex/bits.errTrouble", laid_annex_bits_errTrouble)] }
def JournalStepsSaid : Prop := journalStepsRow.holds Tryz.pinned (OpenSpec.ofChange journalStepsSpec)

/-- ITS FALSE NEIGHBOUR: 'it returns false'. Refute it at one input. -/
def journalStepsWrong : ChangeSpec := { name := "journalSteps", fn := fun _ => fun
  | [d1, d2, d3, d4, d5] => { results := [.lit (.bool false)], args := [d1, d2, d3, d4, d5] }
  | _ => none }
def JournalStepsWrongFalsely : Prop := journalStepsRow.holds Tryz.pinned (OpenSpec.ofChange journalStepsWrong)

/-- 'annexlaw7.JournalAgain': WHATEVER THE INPUT: true; the input reads as it did. -/
def journalAgainSpec : ChangeSpec := { name := "journalAgain", fn := fun _ => fun
  | [d1, d2, d3, d4, d5] => { results := [.lit (.bool true)], args := [d1, d2, d3, d4, d5] }
  | _ => none }
def journalAgainRow : OpenClaim := { program := "ytmafafingdpopaagreatdoor", sum := "d0b8fafff5023e101d44d435143019b18dbba447db3a8ed867020961336e0621", func := "annex/annexlaw7.JournalAgain", spec := "journalAgain", inPlace := ["(*internal/sync.Mutex).Lock", "internal/race.Disable", "sync/atomic.CompareAndSwapInt32", "internal/race.Enable", "internal/race.Acquire", "(*internal/sync.Mutex).lockSlow", "internal/sync.runtime_canSpin", "internal/sync.runtime_doSpin", "internal/sync.throw", "internal/sync.runtime_nanotime", "internal/sync.runtime_SemacquireMutex", "sync/atomic.AddInt32", "(*internal/sync.Mutex).Unlock", "internal/race.ReleaseMerge", "(*internal/sync.Mutex).unlockSlow", "internal/sync.fatal", "internal/sync.runtime_Semrelease", "internal/reflectlite.ValueOf", "(internal/reflectlite.Value).Type", "(internal/reflectlite.Value).IsNil", "internal/reflectlite.TypeOf", "(internal/reflectlite.Value).Elem", "(internal/reflectlite.Value).Set"], unfollowed := true, recurses := true, named := ["errors.errorType", "annex/bits.errTrouble"], apart := false, laid := [("errors.errorType", laid_errors_errorType), ("annex/bits.errTrouble", laid_annex_bits_errTrouble)] }
def JournalAgainSaid : Prop := journalAgainRow.holds Tryz.pinned (OpenSpec.ofChange journalAgainSpec)

/-- ITS FALSE NEIGHBOUR: 'it returns false'. Refute it at one input. -/
def journalAgainWrong : ChangeSpec := { name := "journalAgain", fn := fun _ => fun
  | [d1, d2, d3, d4, d5] => { results := [.lit (.bool false)], args := [d1, d2, d3, d4, d5] }
  | _ => none }
def JournalAgainWrongFalsely : Prop := journalAgainRow.holds Tryz.pinned (OpenSpec.ofChange journalAgainWrong)

/-- 'annexlaw7.JournalPlays': WHATEVER THE INPUT: true; the input reads as it did. -/
def journalPlaysSpec : ChangeSpec := { name := "journalPlays", fn := fun _ => fun
  | [d1, d2, d3, d4] => { results := [.lit (.bool true)], args := [d1, d2, d3, d4] }
  | _ => none }
def journalPlaysRow : OpenClaim := { program := "ytmafafingdpopaagreatdoor", sum := "d0b8fafff5023e101d44d435143019b18dbba447db3a8ed867020961336e0621", func := "annex/annexlaw7.JournalPlays", spec := "journalPlays", inPlace := ["(*internal/sync.Mutex).Lock", "internal/race.Disable", "sync/atomic.CompareAndSwapInt32", "internal/race.Enable", "internal/race.Acquire", "(*internal/sync.Mutex).lockSlow", "internal/sync.runtime_canSpin", "internal/sync.runtime_doSpin", "internal/sync.throw", "internal/sync.runtime_nanotime", "internal/sync.runtime_SemacquireMutex", "sync/atomic.AddInt32", "(*internal/sync.Mutex).Unlock", "internal/race.ReleaseMerge", "(*internal/sync.Mutex).unlockSlow", "internal/sync.fatal", "internal/sync.runtime_Semrelease", "internal/reflectlite.ValueOf", "(internal/reflectlite.Value).Type", "(internal/reflectlite.Value).IsNil", "internal/reflectlite.TypeOf", "(internal/reflectlite.Value).Elem", "(internal/reflectlite.Value).Set"], unfollowed := true, recurses := true, named := ["errors.errorType", "annex/bits.errTrouble"], apart := false, laid := [("errors.errorType", laid_errors_errorType), ("annex/bits.errTrouble", laid_annex_bits_errTrouble)] }
def JournalPlaysSaid : Prop := journalPlaysRow.holds Tryz.pinned (OpenSpec.ofChange journalPlaysSpec)

/-- ITS FALSE NEIGHBOUR: 'it returns false'. Refute it at one input. -/
def journalPlaysWrong : ChangeSpec := { name := "journalPlays", fn := fun _ => fun
  | [d1, d2, d3, d4] => { results := [.lit (.bool false)], args := [d1, d2, d3, d4] }
  | _ => none }
def JournalPlaysWrongFalsely : Prop := journalPlaysRow.holds Tryz.pinned (OpenSpec.ofChange journalPlaysWrong)

/-- 'annexlaw7.JournalOpens': WHATEVER THE INPUT: true; the input reads as it did. -/
def journalOpensSpec : ChangeSpec := { name := "journalOpens", fn := fun _ => fun
  | [d1, d2, d3, d4] => { results := [.lit (.bool true)], args := [d1, d2, d3, d4] }
  | _ => none }
def journalOpensRow : OpenClaim := { program := "ytmafafingdpopaagreatdoor", sum := "d0b8fafff5023e101d44d435143019b18dbba447db3a8ed867020961336e0621", func := "annex/annexlaw7.JournalOpens", spec := "journalOpens", inPlace := ["(*internal/sync.Mutex).Lock", "internal/race.Disable", "sync/atomic.CompareAndSwapInt32", "internal/race.Enable", "internal/race.Acquire", "(*internal/sync.Mutex).lockSlow", "internal/sync.runtime_canSpin", "internal/sync.runtime_doSpin", "internal/sync.throw", "internal/sync.runtime_nanotime", "internal/sync.runtime_SemacquireMutex", "sync/atomic.AddInt32", "(*internal/sync.Mutex).Unlock", "internal/race.ReleaseMerge", "(*internal/sync.Mutex).unlockSlow", "internal/sync.fatal", "internal/sync.runtime_Semrelease", "internal/reflectlite.ValueOf", "(internal/reflectlite.Value).Type", "(internal/reflectlite.Value).IsNil", "internal/reflectlite.TypeOf", "(internal/reflectlite.Value).Elem", "(internal/reflectlite.Value).Set"], unfollowed := true, recurses := true, named := ["errors.errorType", "annex/bits.errTrouble"], apart := false, laid := [("errors.errorType", laid_errors_errorType), ("annex/bits.errTrouble", laid_annex_bits_errTrouble)] }
def JournalOpensSaid : Prop := journalOpensRow.holds Tryz.pinned (OpenSpec.ofChange journalOpensSpec)

/-- ITS FALSE NEIGHBOUR: 'it returns false'. Refute it at one input. -/
def journalOpensWrong : ChangeSpec := { name := "journalOpens", fn := fun _ => fun
  | [d1, d2, d3, d4] => { results := [.lit (.bool false)], args := [d1, d2, d3, d4] }
  | _ => none }
def JournalOpensWrongFalsely : Prop := journalOpensRow.holds Tryz.pinned (OpenSpec.ofChange journalOpensWrong)

/- THE SECOND FORM. 'bulk': how many values and letters a reading holds, each counted each time it is reached (what is shared counts as often as it is met; a slice's spare places count too). A statement '..UptoSaid' is the law's where the arguments, and the package variables that the reading takes, are together of bulk at most 1048576: NARROWER than '..Said'. Prove '..Said' where nothing that the law and all that it calls make is longer than what came in: it says more and counts as full. Else prove '..UptoSaid'. A law counts once. -/
mutual
def uptoBulk {H : Type} : DataW H → Nat
  | .lit (.string bytes) => bytes.length + 1
  | .lit _ => 1
  | .nil => 1
  | .ptr d => uptoBulk d + 1
  | .slice elems spare => uptoBulkAll elems + uptoBulkAll spare + 1
  | .agg parts => uptoBulkAll parts + 1
  | .iface _ d => uptoBulk d + 1
  | .map entries => uptoBulkEntries entries + 1
  | .held _ => 1
def uptoBulkAll {H : Type} : List (DataW H) → Nat
  | [] => 0
  | d :: r => uptoBulk d + uptoBulkAll r
def uptoBulkEntries {H : Type} : List (Lit × DataW H) → Nat
  | [] => 0
  | x :: r => uptoBulkEntry x + uptoBulkEntries r
def uptoBulkEntry {H : Type} : Lit × DataW H → Nat
  | (.string bytes, d) => bytes.length + uptoBulk d + 1
  | (_, d) => uptoBulk d + 1
 end
def uptoSmall : (H : Type) → List (DataW H) → Bool := fun _ ds => decide (uptoBulkAll ds ≤ 1048576)
def OpenSpec.upto (s : _root_.Go.ChangeSpec) : _root_.Go.OpenSpec := { _root_.Go.OpenSpec.ofChange s with cond := some uptoSmall }

/-- 'annexlaw7.JournalOwn', WHERE WHAT IT READS IS OF BULK AT MOST 1048576: true; the input reads as it did. -/
def journalOwnUptoRow : OpenClaim := { program := "ytmafafingdpopaagreatdoor", sum := "d0b8fafff5023e101d44d435143019b18dbba447db3a8ed867020961336e0621", func := "annex/annexlaw7.JournalOwn", spec := "journalOwn", inPlace := ["(*internal/sync.Mutex).Lock", "internal/race.Disable", "sync/atomic.CompareAndSwapInt32", "internal/race.Enable", "internal/race.Acquire", "(*internal/sync.Mutex).lockSlow", "internal/sync.runtime_canSpin", "internal/sync.runtime_doSpin", "internal/sync.throw", "internal/sync.runtime_nanotime", "internal/sync.runtime_SemacquireMutex", "sync/atomic.AddInt32", "(*internal/sync.Mutex).Unlock", "internal/race.ReleaseMerge", "(*internal/sync.Mutex).unlockSlow", "internal/sync.fatal", "internal/sync.runtime_Semrelease", "internal/reflectlite.ValueOf", "(internal/reflectlite.Value).Type", "(internal/reflectlite.Value).IsNil", "internal/reflectlite.TypeOf", "(internal/reflectlite.Value).Elem", "(internal/reflectlite.Value).Set"], unfollowed := true, recurses := true, named := ["errors.errorType", "annex/bits.errTrouble"], apart := false, laid := [("errors.errorType", laid_errors_errorType), ("annex/bits.errTrouble", laid_annex_bits_errTrouble)], narrowed := true }
def JournalOwnUptoSaid : Prop := journalOwnUptoRow.holds Tryz.pinned (OpenSpec.upto journalOwnSpec)

/-- 'annexlaw7.JournalWhole', WHERE WHAT IT READS IS OF BULK AT MOST 1048576: true; the input reads as it did. -/
def journalWholeUptoRow : OpenClaim := { program := "ytmafafingdpopaagreatdoor", sum := "d0b8fafff5023e101d44d435143019b18dbba447db3a8ed867020961336e0621", func := "annex/annexlaw7.JournalWhole", spec := "journalWhole", inPlace := ["(*internal/sync.Mutex).Lock", "internal/race.Disable", "sync/atomic.CompareAndSwapInt32", "internal/race.Enable", "internal/race.Acquire", "(*internal/sync.Mutex).lockSlow", "internal/sync.runtime_canSpin", "internal/sync.runtime_doSpin", "internal/sync.throw", "internal/sync.runtime_nanotime", "internal/sync.runtime_SemacquireMutex", "sync/atomic.AddInt32", "(*internal/sync.Mutex).Unlock", "internal/race.ReleaseMerge", "(*internal/sync.Mutex).unlockSlow", "internal/sync.fatal", "internal/sync.runtime_Semrelease", "internal/reflectlite.ValueOf", "(internal/reflectlite.Value).Type", "(internal/reflectlite.Value).IsNil", "internal/reflectlite.TypeOf", "(internal/reflectlite.Value).Elem", "(internal/reflectlite.Value).Set"], unfollowed := true, recurses := true, named := ["errors.errorType", "annex/bits.errTrouble"], apart := false, laid := [("errors.errorType", laid_errors_errorType), ("annex/bits.errTrouble", laid_annex_bits_errTrouble)], narrowed := true }
def JournalWholeUptoSaid : Prop := journalWholeUptoRow.holds Tryz.pinned (OpenSpec.upto journalWholeSpec)

/-- 'annexlaw7.JournalEvery', WHERE WHAT IT READS IS OF BULK AT MOST 1048576: true; the input reads as it did. -/
def journalEveryUptoRow : OpenClaim := { program := "ytmafafingdpopaagreatdoor", sum := "d0b8fafff5023e101d44d435143019b18dbba447db3a8ed867020961336e0621", func := "annex/annexlaw7.JournalEvery", spec := "journalEvery", inPlace := ["(*internal/sync.Mutex).Lock", "internal/race.Disable", "sync/atomic.CompareAndSwapInt32", "internal/race.Enable", "internal/race.Acquire", "(*internal/sync.Mutex).lockSlow", "internal/sync.runtime_canSpin", "internal/sync.runtime_doSpin", "internal/sync.throw", "internal/sync.runtime_nanotime", "internal/sync.runtime_SemacquireMutex", "sync/atomic.AddInt32", "(*internal/sync.Mutex).Unlock", "internal/race.ReleaseMerge", "(*internal/sync.Mutex).unlockSlow", "internal/sync.fatal", "internal/sync.runtime_Semrelease", "internal/reflectlite.ValueOf", "(internal/reflectlite.Value).Type", "(internal/reflectlite.Value).IsNil", "internal/reflectlite.TypeOf", "(internal/reflectlite.Value).Elem", "(internal/reflectlite.Value).Set"], unfollowed := true, recurses := true, named := ["errors.errorType", "annex/bits.errTrouble"], apart := false, laid := [("errors.errorType", laid_errors_errorType), ("annex/bits.errTrouble", laid_annex_bits_errTrouble)], narrowed := true }
def JournalEveryUptoSaid : Prop := journalEveryUptoRow.holds Tryz.pinned (OpenSpec.upto journalEverySpec)

/-- 'annexlaw7.JournalSaves', WHERE WHAT IT READS IS OF BULK AT MOST 1048576: true; the input reads as it did. -/
def journalSavesUptoRow : OpenClaim := { program := "ytmafafingdpopaagreatdoor", sum := "d0b8fafff5023e101d44d435143019b18dbba447db3a8ed867020961336e0621", func := "annex/annexlaw7.JournalSaves", spec := "journalSaves", inPlace := ["(*internal/sync.Mutex).Lock", "internal/race.Disable", "sync/atomic.CompareAndSwapInt32", "internal/race.Enable", "internal/race.Acquire", "(*internal/sync.Mutex).lockSlow", "internal/sync.runtime_canSpin", "internal/sync.runtime_doSpin", "internal/sync.throw", "internal/sync.runtime_nanotime", "internal/sync.runtime_SemacquireMutex", "sync/atomic.AddInt32", "(*internal/sync.Mutex).Unlock", "internal/race.ReleaseMerge", "(*internal/sync.Mutex).unlockSlow", "internal/sync.fatal", "internal/sync.runtime_Semrelease", "internal/reflectlite.ValueOf", "(internal/reflectlite.Value).Type", "(internal/reflectlite.Value).IsNil", "internal/reflectlite.TypeOf", "(internal/reflectlite.Value).Elem", "(internal/reflectlite.Value).Set"], unfollowed := true, recurses := true, named := ["errors.errorType", "annex/bits.errTrouble"], apart := false, laid := [("errors.errorType", laid_errors_errorType), ("annex/bits.errTrouble", laid_annex_bits_errTrouble)], narrowed := true }
def JournalSavesUptoSaid : Prop := journalSavesUptoRow.holds Tryz.pinned (OpenSpec.upto journalSavesSpec)

/-- 'annexlaw7.JournalSteps', WHERE WHAT IT READS IS OF BULK AT MOST 1048576: true; the input reads as it did. -/
def journalStepsUptoRow : OpenClaim := { program := "ytmafafingdpopaagreatdoor", sum := "d0b8fafff5023e101d44d435143019b18dbba447db3a8ed867020961336e0621", func := "annex/annexlaw7.JournalSteps", spec := "journalSteps", inPlace := ["(*internal/sync.Mutex).Lock", "internal/race.Disable", "sync/atomic.CompareAndSwapInt32", "internal/race.Enable", "internal/race.Acquire", "(*internal/sync.Mutex).lockSlow", "internal/sync.runtime_canSpin", "internal/sync.runtime_doSpin", "internal/sync.throw", "internal/sync.runtime_nanotime", "internal/sync.runtime_SemacquireMutex", "sync/atomic.AddInt32", "(*internal/sync.Mutex).Unlock", "internal/race.ReleaseMerge", "(*internal/sync.Mutex).unlockSlow", "internal/sync.fatal", "internal/sync.runtime_Semrelease", "internal/reflectlite.ValueOf", "(internal/reflectlite.Value).Type", "(internal/reflectlite.Value).IsNil", "internal/reflectlite.TypeOf", "(internal/reflectlite.Value).Elem", "(internal/reflectlite.Value).Set"], unfollowed := true, recurses := true, named := ["errors.errorType", "annex/bits.errTrouble"], apart := false, laid := [("errors.errorType", laid_errors_errorType), ("annex/bits.errTrouble", laid_annex_bits_errTrouble)], narrowed := true }
def JournalStepsUptoSaid : Prop := journalStepsUptoRow.holds Tryz.pinned (OpenSpec.upto journalStepsSpec)

/-- 'annexlaw7.JournalAgain', WHERE WHAT IT READS IS OF BULK AT MOST 1048576: true; the input reads as it did. -/
def journalAgainUptoRow : OpenClaim := { program := "ytmafafingdpopaagreatdoor", sum := "d0b8fafff5023e101d44d435143019b18dbba447db3a8ed867020961336e0621", func := "annex/annexlaw7.JournalAgain", spec := "journalAgain", inPlace := ["(*internal/sync.Mutex).Lock", "internal/race.Disable", "sync/atomic.CompareAndSwapInt32", "internal/race.Enable", "internal/race.Acquire", "(*internal/sync.Mutex).lockSlow", "internal/sync.runtime_canSpin", "internal/sync.runtime_doSpin", "internal/sync.throw", "internal/sync.runtime_nanotime", "internal/sync.runtime_SemacquireMutex", "sync/atomic.AddInt32", "(*internal/sync.Mutex).Unlock", "internal/race.ReleaseMerge", "(*internal/sync.Mutex).unlockSlow", "internal/sync.fatal", "internal/sync.runtime_Semrelease", "internal/reflectlite.ValueOf", "(internal/reflectlite.Value).Type", "(internal/reflectlite.Value).IsNil", "internal/reflectlite.TypeOf", "(internal/reflectlite.Value).Elem", "(internal/reflectlite.Value).Set"], unfollowed := true, recurses := true, named := ["errors.errorType", "annex/bits.errTrouble"], apart := false, laid := [("errors.errorType", laid_errors_errorType), ("annex/bits.errTrouble", laid_annex_bits_errTrouble)], narrowed := true }
def JournalAgainUptoSaid : Prop := journalAgainUptoRow.holds Tryz.pinned (OpenSpec.upto journalAgainSpec)

/-- 'annexlaw7.JournalPlays', WHERE WHAT IT READS IS OF BULK AT MOST 1048576: true; the input reads as it did. -/
def journalPlaysUptoRow : OpenClaim := { program := "ytmafafingdpopaagreatdoor", sum := "d0b8fafff5023e101d44d435143019b18dbba447db3a8ed867020961336e0621", func := "annex/annexlaw7.JournalPlays", spec := "journalPlays", inPlace := ["(*internal/sync.Mutex).Lock", "internal/race.Disable", "sync/atomic.CompareAndSwapInt32", "internal/race.Enable", "internal/race.Acquire", "(*internal/sync.Mutex).lockSlow", "internal/sync.runtime_canSpin", "internal/sync.runtime_doSpin", "internal/sync.throw", "internal/sync.runtime_nanotime", "internal/sync.runtime_SemacquireMutex", "sync/atomic.AddInt32", "(*internal/sync.Mutex).Unlock", "internal/race.ReleaseMerge", "(*internal/sync.Mutex).unlockSlow", "internal/sync.fatal", "internal/sync.runtime_Semrelease", "internal/reflectlite.ValueOf", "(internal/reflectlite.Value).Type", "(internal/reflectlite.Value).IsNil", "internal/reflectlite.TypeOf", "(internal/reflectlite.Value).Elem", "(internal/reflectlite.Value).Set"], unfollowed := true, recurses := true, named := ["errors.errorType", "annex/bits.errTrouble"], apart := false, laid := [("errors.errorType", laid_errors_errorType), ("annex/bits.errTrouble", laid_annex_bits_errTrouble)], narrowed := true }
def JournalPlaysUptoSaid : Prop := journalPlaysUptoRow.holds Tryz.pinned (OpenSpec.upto journalPlaysSpec)

/-- 'annexlaw7.JournalOpens', WHERE WHAT IT READS IS OF BULK AT MOST 1048576: true; the input reads as it did. -/
def journalOpensUptoRow : OpenClaim := { program := "ytmafafingdpopaagreatdoor", sum := "d0b8fafff5023e101d44d435143019b18dbba447db3a8ed867020961336e0621", func := "annex/annexlaw7.JournalOpens", spec := "journalOpens", inPlace := ["(*internal/sync.Mutex).Lock", "internal/race.Disable", "sync/atomic.CompareAndSwapInt32", "internal/race.Enable", "internal/race.Acquire", "(*internal/sync.Mutex).lockSlow", "internal/sync.runtime_canSpin", "internal/sync.runtime_doSpin", "internal/sync.throw", "internal/sync.runtime_nanotime", "internal/sync.runtime_SemacquireMutex", "sync/atomic.AddInt32", "(*internal/sync.Mutex).Unlock", "internal/race.ReleaseMerge", "(*internal/sync.Mutex).unlockSlow", "internal/sync.fatal", "internal/sync.runtime_Semrelease", "internal/reflectlite.ValueOf", "(internal/reflectlite.Value).Type", "(internal/reflectlite.Value).IsNil", "internal/reflectlite.TypeOf", "(internal/reflectlite.Value).Elem", "(internal/reflectlite.Value).Set"], unfollowed := true, recurses := true, named := ["errors.errorType", "annex/bits.errTrouble"], apart := false, laid := [("errors.errorType", laid_errors_errorType), ("annex/bits.errTrouble", laid_annex_bits_errTrouble)], narrowed := true }
def JournalOpensUptoSaid : Prop := journalOpensUptoRow.holds Tryz.pinned (OpenSpec.upto journalOpensSpec)

end Rows
end Go.Proofs.YtmafafingdpopaaGreatDoor
