/-
  NARROWER THAN 'FOR EVERY INPUT', by the rows' own cells (each row's printed sentence says how): SpaceFills: laid · JournalSaves: laid · SpaceShapes: laid · SpaceLowest: laid · SpaceEnded: laid · SpaceLasts: laid.
  DERIVED. THE GIVEN ROWS OF THIS SEAT. 6 by the template 'for every input the law returns true; each argument reads behind the call as it read before'; 0 by the template 'total and deterministic' (their statements: YtlhlmjkocmahmaaGreatDoorTotals.lean).
  GIVEN WITH THE SEED: the statements are not yours to turn. If you find one false, say at which input.
  Laid BY PROGRAM, IN A SANDBOX (cutbox-rows.mjs): the forced cells as the released guide's own fill.sh prints them over the translation 39e7c01f5b7b71c7… (all of the seat's roots in one cut). By AI agents, Wed Nov 11 2026. No macro, syntax, notation, axiom, sorry.
-/
import Derived.Test.YtlhlmjkocmahmaaGreatDoorChecked
import GoSem.Claim
import GoSem.ClaimJoined
import GoSem.ClaimMapViews
import Derived.JoinedTies
import Derived.KernelRfl
namespace Go.Proofs.YtlhlmjkocmahmaaGreatDoor
/- THE CELL 'sum', in the pinned program and in every row, IS THE sha256 OF THE DUMP (.gsa) THAT YtlhlmjkocmahmaaGreatDoorProg.lean LOADS. Nothing in Lean hashes anything: it is a label: what it is worth is what the hold of that sum in a sandbox is worth. -/
noncomputable def Tryz.pinned : Pinned := { name := "ytlhlmjkocmahmaagreatdoor", sum := "39e7c01f5b7b71c7904c9d63482313c15a68dd5520cb231997e3b5f14c81e5ca", checked := Tryz.checked }
namespace Rows
def none {H : Type} : Left H := { results := [], args := [] }

/- WHAT THE LISTED PACKAGE-LEVEL VARIABLES READ AS WHEN THE CALL BEGINS. Each datum BY PROGRAM (the guide's laid-datum.mjs) off the statement by which the dump's own 'gosem.cut.vars' lays the variable. In a bare row this is a premise. The card (YtlhlmjkocmahmaaGreatDoorCards.lean) ties it to the program's text. -/
def laid_errors_errorType {H : Type} : DataW H := .iface "internal/reflectlite.rtype" (.agg [.ptr (.lit (.string [101, 114, 114, 111, 114]))])
def laid_annex_bits_errTrouble {H : Type} : DataW H := .iface "*errors.errorString" (.ptr (.agg [.lit (.string [98, 105, 116, 115, 58, 32, 110, 111, 32, 115, 117, 99, 104, 32, 102, 105, 101, 108, 100])]))
def laid_annex_plan_bounds {H : Type} : DataW H := .agg [.agg [.lit (.int .i64 1), .lit (.int .i64 8)], .agg [.lit (.int .i64 1), .lit (.int .i64 8)], .agg [.lit (.int .i64 1), .lit (.int .i64 8)], .agg [.lit (.int .i64 1), .lit (.int .i64 64)], .agg [.lit (.int .i64 2), .lit (.int .i64 256)], .agg [.lit (.int .i64 0), .lit (.int .i64 524288)], .agg [.lit (.int .i64 1), .lit (.int .i64 4096)], .agg [.lit (.int .i64 27), .lit (.int .i64 512)]]

/-- 'annexlaw8.SpaceFills': WHATEVER THE INPUT: true; the input reads as it did. -/
def spaceFillsSpec : ChangeSpec := { name := "spaceFills", fn := fun _ => fun
  | [d1, d2] => { results := [.lit (.bool true)], args := [d1, d2] }
  | _ => none }
def spaceFillsRow : OpenClaim := { program := "ytlhlmjkocmahmaagreatdoor", sum := "39e7c01f5b7b71c7904c9d63482313c15a68dd5520cb231997e3b5f14c81e5ca", func := "annex/annexlaw8.SpaceFills", spec := "spaceFills", inPlace := ["(*internal/sync.Mutex).Lock", "internal/race.Disable", "sync/atomic.CompareAndSwapInt32", "internal/race.Enable", "internal/race.Acquire", "(*internal/sync.Mutex).lockSlow", "internal/sync.runtime_canSpin", "internal/sync.runtime_doSpin", "internal/sync.throw", "internal/sync.runtime_nanotime", "internal/sync.runtime_SemacquireMutex", "sync/atomic.AddInt32", "(*internal/sync.Mutex).Unlock", "internal/race.ReleaseMerge", "(*internal/sync.Mutex).unlockSlow", "internal/sync.fatal", "internal/sync.runtime_Semrelease", "internal/reflectlite.ValueOf", "(internal/reflectlite.Value).Type", "(internal/reflectlite.Value).IsNil", "internal/reflectlite.TypeOf", "(internal/reflectlite.Value).Elem", "(internal/reflectlite.Value).Set"], unfollowed := true, recurses := true, named := ["annex/plan.bounds", "errors.errorType", "annex/bits.errTrouble"], apart := false, laid := [("errors.errorType", laid_errors_errorType), ("annex/bits.errTrouble", laid_annex_bits_errTrouble), ("annex/plan.bounds", laid_annex_plan_bounds)] }
def SpaceFillsSaid : Prop := spaceFillsRow.holds Tryz.pinned (OpenSpec.ofChange spaceFillsSpec)

/-- ITS FALSE NEIGHBOUR: 'it returns false'. Refute it at one input. -/
def spaceFillsWrong : ChangeSpec := { name := "spaceFills", fn := fun _ => fun
  | [d1, d2] => { results := [.lit (.bool false)], args := [d1, d2] }
  | _ => none }
def SpaceFillsWrongFalsely : Prop := spaceFillsRow.holds Tryz.pinned (OpenSpec.ofChange spaceFillsWrong)

/-- 'annexlaw7.JournalSaves': WHATEVER THE INPUT: true; the input reads as it did. -/
def journalSavesSpec : ChangeSpec := { name := "journalSaves", fn := fun _ => fun
  | [d1, d2] => { results := [.lit (.bool true)], args := [d1, d2] }
  | _ => none }
def journalSavesRow : OpenClaim := { program := "ytlhlmjkocmahmaagreatdoor", sum := "39e7c01f5b7b71c7904c9d63482313c15a68dd5520cb231997e3b5f14c81e5ca", func := "annex/annexlaw7.JournalSaves", spec := "journalSaves", inPlace := ["(*internal/sync.Mutex).Lock", "internal/race.Disable", "sync/atomic.CompareAndSwapInt32", "internal/race.Enable", "internal/race.Acquire", "(*internal/sync.Mutex).lockSlow", "internal/sync.runtime_canSpin", "internal/sync.runtime_doSpin", "internal/sync.throw", "internal/sync.runtime_nanotime", "internal/sync.runtime_SemacquireMutex", "sync/atomic.AddInt32", "(*internal/sync.Mutex).Unlock", "internal/race.ReleaseMerge", "(*internal/sync.Mutex).unlockSlow", "internal/sync.fatal", "internal/sync.runtime_Semrelease", "internal/reflectlite.ValueOf", "(internal/reflectlite.Value).Type", "(internal/reflectlite.Value).IsNil", "internal/reflectlite.TypeOf", "(internal/reflectlite.Value).Elem", "(internal/reflectlite.Value).Set"], unfollowed := true, recurses := true, named := ["errors.errorType", "annex/bits.errTrouble"], apart := false, laid := [("errors.errorType", laid_errors_errorType), ("annex/bits.errTrouble", laid_annex_bits_errTrouble)] }
def JournalSavesSaid : Prop := journalSavesRow.holds Tryz.pinned (OpenSpec.ofChange journalSavesSpec)

/-- ITS FALSE NEIGHBOUR: 'it returns false'. Refute it at one input. -/
def journalSavesWrong : ChangeSpec := { name := "journalSaves", fn := fun _ => fun
  | [d1, d2] => { results := [.lit (.bool false)], args := [d1, d2] }
  | _ => none }
def JournalSavesWrongFalsely : Prop := journalSavesRow.holds Tryz.pinned (OpenSpec.ofChange journalSavesWrong)

/-- 'annexlaw8.SpaceShapes': WHATEVER THE INPUT: true; the input reads as it did. -/
def spaceShapesSpec : ChangeSpec := { name := "spaceShapes", fn := fun _ => fun
  | [d1, d2, d3, d4] => { results := [.lit (.bool true)], args := [d1, d2, d3, d4] }
  | _ => none }
def spaceShapesRow : OpenClaim := { program := "ytlhlmjkocmahmaagreatdoor", sum := "39e7c01f5b7b71c7904c9d63482313c15a68dd5520cb231997e3b5f14c81e5ca", func := "annex/annexlaw8.SpaceShapes", spec := "spaceShapes", inPlace := ["(*internal/sync.Mutex).Lock", "internal/race.Disable", "sync/atomic.CompareAndSwapInt32", "internal/race.Enable", "internal/race.Acquire", "(*internal/sync.Mutex).lockSlow", "internal/sync.runtime_canSpin", "internal/sync.runtime_doSpin", "internal/sync.throw", "internal/sync.runtime_nanotime", "internal/sync.runtime_SemacquireMutex", "sync/atomic.AddInt32", "(*internal/sync.Mutex).Unlock", "internal/race.ReleaseMerge", "(*internal/sync.Mutex).unlockSlow", "internal/sync.fatal", "internal/sync.runtime_Semrelease", "internal/reflectlite.ValueOf", "(internal/reflectlite.Value).Type", "(internal/reflectlite.Value).IsNil", "internal/reflectlite.TypeOf", "(internal/reflectlite.Value).Elem", "(internal/reflectlite.Value).Set"], unfollowed := true, recurses := true, named := ["annex/plan.bounds", "errors.errorType", "annex/bits.errTrouble"], apart := false, laid := [("errors.errorType", laid_errors_errorType), ("annex/bits.errTrouble", laid_annex_bits_errTrouble), ("annex/plan.bounds", laid_annex_plan_bounds)] }
def SpaceShapesSaid : Prop := spaceShapesRow.holds Tryz.pinned (OpenSpec.ofChange spaceShapesSpec)

/-- ITS FALSE NEIGHBOUR: 'it returns false'. Refute it at one input. -/
def spaceShapesWrong : ChangeSpec := { name := "spaceShapes", fn := fun _ => fun
  | [d1, d2, d3, d4] => { results := [.lit (.bool false)], args := [d1, d2, d3, d4] }
  | _ => none }
def SpaceShapesWrongFalsely : Prop := spaceShapesRow.holds Tryz.pinned (OpenSpec.ofChange spaceShapesWrong)

/-- 'annexlaw8.SpaceLowest': WHATEVER THE INPUT: true; the input reads as it did. -/
def spaceLowestSpec : ChangeSpec := { name := "spaceLowest", fn := fun _ => fun
  | [d1, d2] => { results := [.lit (.bool true)], args := [d1, d2] }
  | _ => none }
def spaceLowestRow : OpenClaim := { program := "ytlhlmjkocmahmaagreatdoor", sum := "39e7c01f5b7b71c7904c9d63482313c15a68dd5520cb231997e3b5f14c81e5ca", func := "annex/annexlaw8.SpaceLowest", spec := "spaceLowest", inPlace := ["(*internal/sync.Mutex).Lock", "internal/race.Disable", "sync/atomic.CompareAndSwapInt32", "internal/race.Enable", "internal/race.Acquire", "(*internal/sync.Mutex).lockSlow", "internal/sync.runtime_canSpin", "internal/sync.runtime_doSpin", "internal/sync.throw", "internal/sync.runtime_nanotime", "internal/sync.runtime_SemacquireMutex", "sync/atomic.AddInt32", "(*internal/sync.Mutex).Unlock", "internal/race.ReleaseMerge", "(*internal/sync.Mutex).unlockSlow", "internal/sync.fatal", "internal/sync.runtime_Semrelease", "internal/reflectlite.ValueOf", "(internal/reflectlite.Value).Type", "(internal/reflectlite.Value).IsNil", "internal/reflectlite.TypeOf", "(internal/reflectlite.Value).Elem", "(internal/reflectlite.Value).Set"], unfollowed := true, recurses := true, named := ["annex/plan.bounds", "errors.errorType", "annex/bits.errTrouble"], apart := false, laid := [("errors.errorType", laid_errors_errorType), ("annex/bits.errTrouble", laid_annex_bits_errTrouble), ("annex/plan.bounds", laid_annex_plan_bounds)] }
def SpaceLowestSaid : Prop := spaceLowestRow.holds Tryz.pinned (OpenSpec.ofChange spaceLowestSpec)

/-- ITS FALSE NEIGHBOUR: 'it returns false'. Refute it at one input. -/
def spaceLowestWrong : ChangeSpec := { name := "spaceLowest", fn := fun _ => fun
  | [d1, d2] => { results := [.lit (.bool false)], args := [d1, d2] }
  | _ => none }
def SpaceLowestWrongFalsely : Prop := spaceLowestRow.holds Tryz.pinned (OpenSpec.ofChange spaceLowestWrong)

/-- 'annexlaw8.SpaceEnded': WHATEVER THE INPUT: true; the input reads as it did. -/
def spaceEndedSpec : ChangeSpec := { name := "spaceEnded", fn := fun _ => fun
  | [d1, d2, d3] => { results := [.lit (.bool true)], args := [d1, d2, d3] }
  | _ => none }
def spaceEndedRow : OpenClaim := { program := "ytlhlmjkocmahmaagreatdoor", sum := "39e7c01f5b7b71c7904c9d63482313c15a68dd5520cb231997e3b5f14c81e5ca", func := "annex/annexlaw8.SpaceEnded", spec := "spaceEnded", inPlace := ["(*internal/sync.Mutex).Lock", "internal/race.Disable", "sync/atomic.CompareAndSwapInt32", "internal/race.Enable", "internal/race.Acquire", "(*internal/sync.Mutex).lockSlow", "internal/sync.runtime_canSpin", "internal/sync.runtime_doSpin", "internal/sync.throw", "internal/sync.runtime_nanotime", "internal/sync.runtime_SemacquireMutex", "sync/atomic.AddInt32", "(*internal/sync.Mutex).Unlock", "internal/race.ReleaseMerge", "(*internal/sync.Mutex).unlockSlow", "internal/sync.fatal", "internal/sync.runtime_Semrelease", "internal/reflectlite.ValueOf", "(internal/reflectlite.Value).Type", "(internal/reflectlite.Value).IsNil", "internal/reflectlite.TypeOf", "(internal/reflectlite.Value).Elem", "(internal/reflectlite.Value).Set"], unfollowed := true, recurses := true, named := ["annex/plan.bounds", "errors.errorType", "annex/bits.errTrouble"], apart := false, laid := [("errors.errorType", laid_errors_errorType), ("annex/bits.errTrouble", laid_annex_bits_errTrouble), ("annex/plan.bounds", laid_annex_plan_bounds)] }
def SpaceEndedSaid : Prop := spaceEndedRow.holds Tryz.pinned (OpenSpec.ofChange spaceEndedSpec)

/-- ITS FALSE NEIGHBOUR: 'it returns false'. Refute it at one input. -/
def spaceEndedWrong : ChangeSpec := { name := "spaceEnded", fn := fun _ => fun
  | [d1, d2, d3] => { results := [.lit (.bool false)], args := [d1, d2, d3] }
  | _ => none }
def SpaceEndedWrongFalsely : Prop := spaceEndedRow.holds Tryz.pinned (OpenSpec.ofChange spaceEndedWrong)

/-- 'annexlaw8.SpaceLasts': WHATEVER THE INPUT: true; the input reads as it did. -/
def spaceLastsSpec : ChangeSpec := { name := "spaceLasts", fn := fun _ => fun
  | [d1, d2] => { results := [.lit (.bool true)], args := [d1, d2] }
  | _ => none }
def spaceLastsRow : OpenClaim := { program := "ytlhlmjkocmahmaagreatdoor", sum := "39e7c01f5b7b71c7904c9d63482313c15a68dd5520cb231997e3b5f14c81e5ca", func := "annex/annexlaw8.SpaceLasts", spec := "spaceLasts", inPlace := ["(*internal/sync.Mutex).Lock", "internal/race.Disable", "sync/atomic.CompareAndSwapInt32", "internal/race.Enable", "internal/race.Acquire", "(*internal/sync.Mutex).lockSlow", "internal/sync.runtime_canSpin", "internal/sync.runtime_doSpin", "internal/sync.throw", "internal/sync.runtime_nanotime", "internal/sync.runtime_SemacquireMutex", "sync/atomic.AddInt32", "(*internal/sync.Mutex).Unlock", "internal/race.ReleaseMerge", "(*internal/sync.Mutex).unlockSlow", "internal/sync.fatal", "internal/sync.runtime_Semrelease", "internal/reflectlite.ValueOf", "(internal/reflectlite.Value).Type", "(internal/reflectlite.Value).IsNil", "internal/reflectlite.TypeOf", "(internal/reflectlite.Value).Elem", "(internal/reflectlite.Value).Set"], unfollowed := true, recurses := true, named := ["annex/plan.bounds", "errors.errorType", "annex/bits.errTrouble"], apart := false, laid := [("errors.errorType", laid_errors_errorType), ("annex/bits.errTrouble", laid_annex_bits_errTrouble), ("annex/plan.bounds", laid_annex_plan_bounds)] }
def SpaceLastsSaid : Prop := spaceLastsRow.holds Tryz.pinned (OpenSpec.ofChange spaceLastsSpec)

/-- ITS FALSE NEIGHBOUR: 'it returns false'. Refute it at one input. -/
def spaceLastsWrong : ChangeSpec := { name := "spaceLasts", fn := fun _ => fun
  | [d1, d2] => { results := [.lit (.bool false)], args := [d1, d2] }
  | _ => none }
def SpaceLastsWrongFalsely : Prop := spaceLastsRow.holds Tryz.pinned (OpenSpec.ofChange spaceLastsWrong)

/- THE SECOND FORM. 'bulk': how many values and letters a reading holds, each counted each time it is reached (what is shared counts as often as it is met; a slice's spare places count too). A statement '..UptoSaid' is the law's where the arguments, and the package variables that the reading takes, are together of bulk at most 1048576: NARROWER than '..Said'. Prove '..Said' where nothing that the law and all that it calls make is longer than what came in: it says more and counts as full. Else prove '..UptoSaid'. A law counts once. -/
mutual
def uptoBulk {H : Type} : DataW H → Nat
  | .lit (.string bytes) => bytes.length + 1
  | .lit _ => 1
  | .nil => 1
  | .ptr d => uptoBulk d + 1
  | .slice elems spare => uptoBulkAll elems + uptoBulkAll spare + 1
  | .agg parts => uptoBulkAll parts + 1
  | .iface _ d => uptoBulk d + 1
  | .map entries => uptoBulkEntries entries + 1
  | .held _ => 1
def uptoBulkAll {H : Type} : List (DataW H) → Nat
  | [] => 0
  | d :: r => uptoBulk d + uptoBulkAll r
def uptoBulkEntries {H : Type} : List (Lit × DataW H) → Nat
  | [] => 0
  | x :: r => uptoBulkEntry x + uptoBulkEntries r
def uptoBulkEntry {H : Type} : Lit × DataW H → Nat
  | (.string bytes, d) => bytes.length + uptoBulk d + 1
  | (_, d) => uptoBulk d + 1
 end
def uptoSmall : (H : Type) → List (DataW H) → Bool := fun _ ds => decide (uptoBulkAll ds ≤ 1048576)
def OpenSpec.upto (s : _root_.Go.ChangeSpec) : _root_.Go.OpenSpec := { _root_.Go.OpenSpec.ofChange s with cond := some uptoSmall }

/-- 'annexlaw8.SpaceFills', WHERE WHAT IT READS IS OF BULK AT MOST 1048576: true; the input reads as it did. -/
def spaceFillsUptoRow : OpenClaim := { program := "ytlhlmjkocmahmaagreatdoor", sum := "39e7c01f5b7b71c7904c9d63482313c15a68dd5520cb231997e3b5f14c81e5ca", func := "annex/annexlaw8.SpaceFills", spec := "spaceFills", inPlace := ["(*internal/sync.Mutex).Lock", "internal/race.Disable", "sync/atomic.CompareAndSwapInt32", "internal/race.Enable", "internal/race.Acquire", "(*internal/sync.Mutex).lockSlow", "internal/sync.runtime_canSpin", "internal/sync.runtime_doSpin", "internal/sync.throw", "internal/sync.runtime_nanotime", "internal/sync.runtime_SemacquireMutex", "sync/atomic.AddInt32", "(*internal/sync.Mutex).Unlock", "internal/race.ReleaseMerge", "(*internal/sync.Mutex).unlockSlow", "internal/sync.fatal", "internal/sync.runtime_Semrelease", "internal/reflectlite.ValueOf", "(internal/reflectlite.Value).Type", "(internal/reflectlite.Value).IsNil", "internal/reflectlite.TypeOf", "(internal/reflectlite.Value).Elem", "(internal/reflectlite.Value).Set"], unfollowed := true, recurses := true, named := ["annex/plan.bounds", "errors.errorType", "annex/bits.errTrouble"], apart := false, laid := [("errors.errorType", laid_errors_errorType), ("annex/bits.errTrouble", laid_annex_bits_errTrouble), ("annex/plan.bounds", laid_annex_plan_bounds)], narrowed := true }
def SpaceFillsUptoSaid : Prop := spaceFillsUptoRow.holds Tryz.pinned (OpenSpec.upto spaceFillsSpec)

/-- 'annexlaw7.JournalSaves', WHERE WHAT IT READS IS OF BULK AT MOST 1048576: true; the input reads as it did. -/
def journalSavesUptoRow : OpenClaim := { program := "ytlhlmjkocmahmaagreatdoor", sum := "39e7c01f5b7b71c7904c9d63482313c15a68dd5520cb231997e3b5f14c81e5ca", func := "annex/annexlaw7.JournalSaves", spec := "journalSaves", inPlace := ["(*internal/sync.Mutex).Lock", "internal/race.Disable", "sync/atomic.CompareAndSwapInt32", "internal/race.Enable", "internal/race.Acquire", "(*internal/sync.Mutex).lockSlow", "internal/sync.runtime_canSpin", "internal/sync.runtime_doSpin", "internal/sync.throw", "internal/sync.runtime_nanotime", "internal/sync.runtime_SemacquireMutex", "sync/atomic.AddInt32", "(*internal/sync.Mutex).Unlock", "internal/race.ReleaseMerge", "(*internal/sync.Mutex).unlockSlow", "internal/sync.fatal", "internal/sync.runtime_Semrelease", "internal/reflectlite.ValueOf", "(internal/reflectlite.Value).Type", "(internal/reflectlite.Value).IsNil", "internal/reflectlite.TypeOf", "(internal/reflectlite.Value).Elem", "(internal/reflectlite.Value).Set"], unfollowed := true, recurses := true, named := ["errors.errorType", "annex/bits.errTrouble"], apart := false, laid := [("errors.errorType", laid_errors_errorType), ("annex/bits.errTrouble", laid_annex_bits_errTrouble)], narrowed := true }
def JournalSavesUptoSaid : Prop := journalSavesUptoRow.holds Tryz.pinned (OpenSpec.upto journalSavesSpec)

/-- 'annexlaw8.SpaceShapes', WHERE WHAT IT READS IS OF BULK AT MOST 1048576: true; the input reads as it did. -/
def spaceShapesUptoRow : OpenClaim := { program := "ytlhlmjkocmahmaagreatdoor", sum := "39e7c01f5b7b71c7904c9d63482313c15a68dd5520cb231997e3b5f14c81e5ca", func := "annex/annexlaw8.SpaceShapes", spec := "spaceShapes", inPlace := ["(*internal/sync.Mutex).Lock", "internal/race.Disable", "sync/atomic.CompareAndSwapInt32", "internal/race.Enable", "internal/race.Acquire", "(*internal/sync.Mutex).lockSlow", "internal/sync.runtime_canSpin", "internal/sync.runtime_doSpin", "internal/sync.throw", "internal/sync.runtime_nanotime", "internal/sync.runtime_SemacquireMutex", "sync/atomic.AddInt32", "(*internal/sync.Mutex).Unlock", "internal/race.ReleaseMerge", "(*internal/sync.Mutex).unlockSlow", "internal/sync.fatal", "internal/sync.runtime_Semrelease", "internal/reflectlite.ValueOf", "(internal/reflectlite.Value).Type", "(internal/reflectlite.Value).IsNil", "internal/reflectlite.TypeOf", "(internal/reflectlite.Value).Elem", "(internal/reflectlite.Value).Set"], unfollowed := true, recurses := true, named := ["annex/plan.bounds", "errors.errorType", "annex/bits.errTrouble"], apart := false, laid := [("errors.errorType", laid_errors_errorType), ("annex/bits.errTrouble", laid_annex_bits_errTrouble), ("annex/plan.bounds", laid_annex_plan_bounds)], narrowed := true }
def SpaceShapesUptoSaid : Prop := spaceShapesUptoRow.holds Tryz.pinned (OpenSpec.upto spaceShapesSpec)

/-- 'annexlaw8.SpaceLowest', WHERE WHAT IT READS IS OF BULK AT MOST 1048576: true; the input reads as it did. -/
def spaceLowestUptoRow : OpenClaim := { program := "ytlhlmjkocmahmaagreatdoor", sum := "39e7c01f5b7b71c7904c9d63482313c15a68dd5520cb231997e3b5f14c81e5ca", func := "annex/annexlaw8.SpaceLowest", spec := "spaceLowest", inPlace := ["(*internal/sync.Mutex).Lock", "internal/race.Disable", "sync/atomic.CompareAndSwapInt32", "internal/race.Enable", "internal/race.Acquire", "(*internal/sync.Mutex).lockSlow", "internal/sync.runtime_canSpin", "internal/sync.runtime_doSpin", "internal/sync.throw", "internal/sync.runtime_nanotime", "internal/sync.runtime_SemacquireMutex", "sync/atomic.AddInt32", "(*internal/sync.Mutex).Unlock", "internal/race.ReleaseMerge", "(*internal/sync.Mutex).unlockSlow", "internal/sync.fatal", "internal/sync.runtime_Semrelease", "internal/reflectlite.ValueOf", "(internal/reflectlite.Value).Type", "(internal/reflectlite.Value).IsNil", "internal/reflectlite.TypeOf", "(internal/reflectlite.Value).Elem", "(internal/reflectlite.Value).Set"], unfollowed := true, recurses := true, named := ["annex/plan.bounds", "errors.errorType", "annex/bits.errTrouble"], apart := false, laid := [("errors.errorType", laid_errors_errorType), ("annex/bits.errTrouble", laid_annex_bits_errTrouble), ("annex/plan.bounds", laid_annex_plan_bounds)], narrowed := true }
def SpaceLowestUptoSaid : Prop := spaceLowestUptoRow.holds Tryz.pinned (OpenSpec.upto spaceLowestSpec)

/-- 'annexlaw8.SpaceEnded', WHERE WHAT IT READS IS OF BULK AT MOST 1048576: true; the input reads as it did. -/
def spaceEndedUptoRow : OpenClaim := { program := "ytlhlmjkocmahmaagreatdoor", sum := "39e7c01f5b7b71c7904c9d63482313c15a68dd5520cb231997e3b5f14c81e5ca", func := "annex/annexlaw8.SpaceEnded", spec := "spaceEnded", inPlace := ["(*internal/sync.Mutex).Lock", "internal/race.Disable", "sync/atomic.CompareAndSwapInt32", "internal/race.Enable", "internal/race.Acquire", "(*internal/sync.Mutex).lockSlow", "internal/sync.runtime_canSpin", "internal/sync.runtime_doSpin", "internal/sync.throw", "internal/sync.runtime_nanotime", "internal/sync.runtime_SemacquireMutex", "sync/atomic.AddInt32", "(*internal/sync.Mutex).Unlock", "internal/race.ReleaseMerge", "(*internal/sync.Mutex).unlockSlow", "internal/sync.fatal", "internal/sync.runtime_Semrelease", "internal/reflectlite.ValueOf", "(internal/reflectlite.Value).Type", "(internal/reflectlite.Value).IsNil", "internal/reflectlite.TypeOf", "(internal/reflectlite.Value).Elem", "(internal/reflectlite.Value).Set"], unfollowed := true, recurses := true, named := ["annex/plan.bounds", "errors.errorType", "annex/bits.errTrouble"], apart := false, laid := [("errors.errorType", laid_errors_errorType), ("annex/bits.errTrouble", laid_annex_bits_errTrouble), ("annex/plan.bounds", laid_annex_plan_bounds)], narrowed := true }
def SpaceEndedUptoSaid : Prop := spaceEndedUptoRow.holds Tryz.pinned (OpenSpec.upto spaceEndedSpec)

/-- 'annexlaw8.SpaceLasts', WHERE WHAT IT READS IS OF BULK AT MOST 1048576: true; the input reads as it did. -/
def spaceLastsUptoRow : OpenClaim := { program := "ytlhlmjkocmahmaagreatdoor", sum := "39e7c01f5b7b71c7904c9d63482313c15a68dd5520cb231997e3b5f14c81e5ca", func := "annex/annexlaw8.SpaceLasts", spec := "spaceLasts", inPlace := ["(*internal/sync.Mutex).Lock", "internal/race.Disable", "sync/atomic.CompareAndSwapInt32", "internal/race.Enable", "internal/race.Acquire", "(*internal/sync.Mutex).lockSlow", "internal/sync.runtime_canSpin", "internal/sync.runtime_doSpin", "internal/sync.throw", "internal/sync.runtime_nanotime", "internal/sync.runtime_SemacquireMutex", "sync/atomic.AddInt32", "(*internal/sync.Mutex).Unlock", "internal/race.ReleaseMerge", "(*internal/sync.Mutex).unlockSlow", "internal/sync.fatal", "internal/sync.runtime_Semrelease", "internal/reflectlite.ValueOf", "(internal/reflectlite.Value).Type", "(internal/reflectlite.Value).IsNil", "internal/reflectlite.TypeOf", "(internal/reflectlite.Value).Elem", "(internal/reflectlite.Value).Set"], unfollowed := true, recurses := true, named := ["annex/plan.bounds", "errors.errorType", "annex/bits.errTrouble"], apart := false, laid := [("errors.errorType", laid_errors_errorType), ("annex/bits.errTrouble", laid_annex_bits_errTrouble), ("annex/plan.bounds", laid_annex_plan_bounds)], narrowed := true }
def SpaceLastsUptoSaid : Prop := spaceLastsUptoRow.holds Tryz.pinned (OpenSpec.upto spaceLastsSpec)

end Rows
end Go.Proofs.YtlhlmjkocmahmaaGreatDoor
