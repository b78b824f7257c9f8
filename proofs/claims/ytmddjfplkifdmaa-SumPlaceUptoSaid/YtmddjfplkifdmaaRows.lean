/-
  No cell of these rows narrows 'for every input' (looked for: loops, veiled, ifaces, maps, wideKeys, modest, calm, conditions, laid).
  DERIVED. THE GIVEN ROWS OF THIS SEAT. 12 by the template 'for every input the law returns true; each argument reads behind the call as it read before'; 0 by the template 'total and deterministic' (their statements: YtmddjfplkifdmaaTotals.lean).
  GIVEN WITH THE SEED: the statements are not yours to turn. If you find one false, say at which input.
  Laid BY PROGRAM, IN A SANDBOX (cutbox-rows.mjs): the forced cells as the released guide's own fill.sh prints them over the translation 38b57a8daa9edfa5… (all of the seat's roots in one cut). By AI agents, Wed Nov 11 2026. No macro, syntax, notation, axiom, sorry.
-/
import Derived.Test.YtmddjfplkifdmaaChecked
import GoSem.Claim
import GoSem.ClaimJoined
import GoSem.ClaimMapViews
import Derived.JoinedTies
import Derived.KernelRfl
namespace Go.Proofs.Ytmddjfplkifdmaa
/- THE CELL 'sum', in the pinned program and in every row, IS THE sha256 OF THE DUMP (.gsa) THAT YtmddjfplkifdmaaProg.lean LOADS. Nothing in Lean hashes anything: it is a label: what it is worth is what the hold of that sum in a sandbox is worth. -/
noncomputable def Try.pinned : Pinned := { name := "ytmddjfplkifdmaa", sum := "38b57a8daa9edfa5bbe26716e79be14f34f9a4be5d64ef602150f7ace506d775", checked := Try.checked }
namespace Rows
def none {H : Type} : Left H := { results := [], args := [] }

/-- 'annexlaw2.SumSums': WHATEVER THE INPUT: true; the input reads as it did. -/
def sumSumsSpec : ChangeSpec := { name := "sumSums", fn := fun _ => fun
  | [d] => { results := [.lit (.bool true)], args := [d] }
  | _ => none }
def sumSumsRow : OpenClaim := { program := "ytmddjfplkifdmaa", sum := "38b57a8daa9edfa5bbe26716e79be14f34f9a4be5d64ef602150f7ace506d775", func := "annex/annexlaw2.SumSums", spec := "sumSums", apart := false }
def SumSumsSaid : Prop := sumSumsRow.holds Try.pinned (OpenSpec.ofChange sumSumsSpec)

/-- ITS FALSE NEIGHBOUR: 'it returns false'. Refute it at one input. -/
def sumSumsWrong : ChangeSpec := { name := "sumSums", fn := fun _ => fun
  | [d] => { results := [.lit (.bool false)], args := [d] }
  | _ => none }
def SumSumsWrongFalsely : Prop := sumSumsRow.holds Try.pinned (OpenSpec.ofChange sumSumsWrong)

/-- 'annexlaw2.SumMores': WHATEVER THE INPUT: true; the input reads as it did. -/
def sumMoresSpec : ChangeSpec := { name := "sumMores", fn := fun _ => fun
  | [d1, d2] => { results := [.lit (.bool true)], args := [d1, d2] }
  | _ => none }
def sumMoresRow : OpenClaim := { program := "ytmddjfplkifdmaa", sum := "38b57a8daa9edfa5bbe26716e79be14f34f9a4be5d64ef602150f7ace506d775", func := "annex/annexlaw2.SumMores", spec := "sumMores", apart := false }
def SumMoresSaid : Prop := sumMoresRow.holds Try.pinned (OpenSpec.ofChange sumMoresSpec)

/-- ITS FALSE NEIGHBOUR: 'it returns false'. Refute it at one input. -/
def sumMoresWrong : ChangeSpec := { name := "sumMores", fn := fun _ => fun
  | [d1, d2] => { results := [.lit (.bool false)], args := [d1, d2] }
  | _ => none }
def SumMoresWrongFalsely : Prop := sumMoresRow.holds Try.pinned (OpenSpec.ofChange sumMoresWrong)

/-- 'annexlaw2.SumBacks': WHATEVER THE INPUT: true; the input reads as it did. -/
def sumBacksSpec : ChangeSpec := { name := "sumBacks", fn := fun _ => fun
  | [d1, d2] => { results := [.lit (.bool true)], args := [d1, d2] }
  | _ => none }
def sumBacksRow : OpenClaim := { program := "ytmddjfplkifdmaa", sum := "38b57a8daa9edfa5bbe26716e79be14f34f9a4be5d64ef602150f7ace506d775", func := "annex/annexlaw2.SumBacks", spec := "sumBacks", apart := false }
def SumBacksSaid : Prop := sumBacksRow.holds Try.pinned (OpenSpec.ofChange sumBacksSpec)

/-- ITS FALSE NEIGHBOUR: 'it returns false'. Refute it at one input. -/
def sumBacksWrong : ChangeSpec := { name := "sumBacks", fn := fun _ => fun
  | [d1, d2] => { results := [.lit (.bool false)], args := [d1, d2] }
  | _ => none }
def SumBacksWrongFalsely : Prop := sumBacksRow.holds Try.pinned (OpenSpec.ofChange sumBacksWrong)

/-- 'annexlaw2.SumJoins': WHATEVER THE INPUT: true; the input reads as it did. -/
def sumJoinsSpec : ChangeSpec := { name := "sumJoins", fn := fun _ => fun
  | [d1, d2, d3] => { results := [.lit (.bool true)], args := [d1, d2, d3] }
  | _ => none }
def sumJoinsRow : OpenClaim := { program := "ytmddjfplkifdmaa", sum := "38b57a8daa9edfa5bbe26716e79be14f34f9a4be5d64ef602150f7ace506d775", func := "annex/annexlaw2.SumJoins", spec := "sumJoins", apart := false }
def SumJoinsSaid : Prop := sumJoinsRow.holds Try.pinned (OpenSpec.ofChange sumJoinsSpec)

/-- ITS FALSE NEIGHBOUR: 'it returns false'. Refute it at one input. -/
def sumJoinsWrong : ChangeSpec := { name := "sumJoins", fn := fun _ => fun
  | [d1, d2, d3] => { results := [.lit (.bool false)], args := [d1, d2, d3] }
  | _ => none }
def SumJoinsWrongFalsely : Prop := sumJoinsRow.holds Try.pinned (OpenSpec.ofChange sumJoinsWrong)

/-- 'annexlaw2.SumUndoes': WHATEVER THE INPUT: true; the input reads as it did. -/
def sumUndoesSpec : ChangeSpec := { name := "sumUndoes", fn := fun _ => fun
  | [d1, d2] => { results := [.lit (.bool true)], args := [d1, d2] }
  | _ => none }
def sumUndoesRow : OpenClaim := { program := "ytmddjfplkifdmaa", sum := "38b57a8daa9edfa5bbe26716e79be14f34f9a4be5d64ef602150f7ace506d775", func := "annex/annexlaw2.SumUndoes", spec := "sumUndoes", apart := false }
def SumUndoesSaid : Prop := sumUndoesRow.holds Try.pinned (OpenSpec.ofChange sumUndoesSpec)

/-- ITS FALSE NEIGHBOUR: 'it returns false'. Refute it at one input. -/
def sumUndoesWrong : ChangeSpec := { name := "sumUndoes", fn := fun _ => fun
  | [d1, d2] => { results := [.lit (.bool false)], args := [d1, d2] }
  | _ => none }
def SumUndoesWrongFalsely : Prop := sumUndoesRow.holds Try.pinned (OpenSpec.ofChange sumUndoesWrong)

/-- 'annexlaw2.SumApart': WHATEVER THE INPUT: true; the input reads as it did. -/
def sumApartSpec : ChangeSpec := { name := "sumApart", fn := fun _ => fun
  | [d1, d2, d3] => { results := [.lit (.bool true)], args := [d1, d2, d3] }
  | _ => none }
def sumApartRow : OpenClaim := { program := "ytmddjfplkifdmaa", sum := "38b57a8daa9edfa5bbe26716e79be14f34f9a4be5d64ef602150f7ace506d775", func := "annex/annexlaw2.SumApart", spec := "sumApart", apart := false }
def SumApartSaid : Prop := sumApartRow.holds Try.pinned (OpenSpec.ofChange sumApartSpec)

/-- ITS FALSE NEIGHBOUR: 'it returns false'. Refute it at one input. -/
def sumApartWrong : ChangeSpec := { name := "sumApart", fn := fun _ => fun
  | [d1, d2, d3] => { results := [.lit (.bool false)], args := [d1, d2, d3] }
  | _ => none }
def SumApartWrongFalsely : Prop := sumApartRow.holds Try.pinned (OpenSpec.ofChange sumApartWrong)

/-- 'annexlaw2.SumNear': WHATEVER THE INPUT: true; the input reads as it did. -/
def sumNearSpec : ChangeSpec := { name := "sumNear", fn := fun _ => fun
  | [d1, d2, d3, d4] => { results := [.lit (.bool true)], args := [d1, d2, d3, d4] }
  | _ => none }
def sumNearRow : OpenClaim := { program := "ytmddjfplkifdmaa", sum := "38b57a8daa9edfa5bbe26716e79be14f34f9a4be5d64ef602150f7ace506d775", func := "annex/annexlaw2.SumNear", spec := "sumNear", apart := false }
def SumNearSaid : Prop := sumNearRow.holds Try.pinned (OpenSpec.ofChange sumNearSpec)

/-- ITS FALSE NEIGHBOUR: 'it returns false'. Refute it at one input. -/
def sumNearWrong : ChangeSpec := { name := "sumNear", fn := fun _ => fun
  | [d1, d2, d3, d4] => { results := [.lit (.bool false)], args := [d1, d2, d3, d4] }
  | _ => none }
def SumNearWrongFalsely : Prop := sumNearRow.holds Try.pinned (OpenSpec.ofChange sumNearWrong)

/-- 'annexlaw2.SumPlays': WHATEVER THE INPUT: true; the input reads as it did. -/
def sumPlaysSpec : ChangeSpec := { name := "sumPlays", fn := fun _ => fun
  | [d1, d2] => { results := [.lit (.bool true)], args := [d1, d2] }
  | _ => none }
def sumPlaysRow : OpenClaim := { program := "ytmddjfplkifdmaa", sum := "38b57a8daa9edfa5bbe26716e79be14f34f9a4be5d64ef602150f7ace506d775", func := "annex/annexlaw2.SumPlays", spec := "sumPlays", apart := false }
def SumPlaysSaid : Prop := sumPlaysRow.holds Try.pinned (OpenSpec.ofChange sumPlaysSpec)

/-- ITS FALSE NEIGHBOUR: 'it returns false'. Refute it at one input. -/
def sumPlaysWrong : ChangeSpec := { name := "sumPlays", fn := fun _ => fun
  | [d1, d2] => { results := [.lit (.bool false)], args := [d1, d2] }
  | _ => none }
def SumPlaysWrongFalsely : Prop := sumPlaysRow.holds Try.pinned (OpenSpec.ofChange sumPlaysWrong)

/-- 'annexlaw2.SumMends': WHATEVER THE INPUT: true; the input reads as it did. -/
def sumMendsSpec : ChangeSpec := { name := "sumMends", fn := fun _ => fun
  | [d1, d2] => { results := [.lit (.bool true)], args := [d1, d2] }
  | _ => none }
def sumMendsRow : OpenClaim := { program := "ytmddjfplkifdmaa", sum := "38b57a8daa9edfa5bbe26716e79be14f34f9a4be5d64ef602150f7ace506d775", func := "annex/annexlaw2.SumMends", spec := "sumMends", apart := false }
def SumMendsSaid : Prop := sumMendsRow.holds Try.pinned (OpenSpec.ofChange sumMendsSpec)

/-- ITS FALSE NEIGHBOUR: 'it returns false'. Refute it at one input. -/
def sumMendsWrong : ChangeSpec := { name := "sumMends", fn := fun _ => fun
  | [d1, d2] => { results := [.lit (.bool false)], args := [d1, d2] }
  | _ => none }
def SumMendsWrongFalsely : Prop := sumMendsRow.holds Try.pinned (OpenSpec.ofChange sumMendsWrong)

/-- 'annexlaw2.SumMended': WHATEVER THE INPUT: true; the input reads as it did. -/
def sumMendedSpec : ChangeSpec := { name := "sumMended", fn := fun _ => fun
  | [d1, d2, d3] => { results := [.lit (.bool true)], args := [d1, d2, d3] }
  | _ => none }
def sumMendedRow : OpenClaim := { program := "ytmddjfplkifdmaa", sum := "38b57a8daa9edfa5bbe26716e79be14f34f9a4be5d64ef602150f7ace506d775", func := "annex/annexlaw2.SumMended", spec := "sumMended", apart := false }
def SumMendedSaid : Prop := sumMendedRow.holds Try.pinned (OpenSpec.ofChange sumMendedSpec)

/-- ITS FALSE NEIGHBOUR: 'it returns false'. Refute it at one input. -/
def sumMendedWrong : ChangeSpec := { name := "sumMended", fn := fun _ => fun
  | [d1, d2, d3] => { results := [.lit (.bool false)], args := [d1, d2, d3] }
  | _ => none }
def SumMendedWrongFalsely : Prop := sumMendedRow.holds Try.pinned (OpenSpec.ofChange sumMendedWrong)

/-- 'annexlaw2.SumFinds': WHATEVER THE INPUT: true; the input reads as it did. -/
def sumFindsSpec : ChangeSpec := { name := "sumFinds", fn := fun _ => fun
  | [d1, d2] => { results := [.lit (.bool true)], args := [d1, d2] }
  | _ => none }
def sumFindsRow : OpenClaim := { program := "ytmddjfplkifdmaa", sum := "38b57a8daa9edfa5bbe26716e79be14f34f9a4be5d64ef602150f7ace506d775", func := "annex/annexlaw2.SumFinds", spec := "sumFinds", apart := false }
def SumFindsSaid : Prop := sumFindsRow.holds Try.pinned (OpenSpec.ofChange sumFindsSpec)

/-- ITS FALSE NEIGHBOUR: 'it returns false'. Refute it at one input. -/
def sumFindsWrong : ChangeSpec := { name := "sumFinds", fn := fun _ => fun
  | [d1, d2] => { results := [.lit (.bool false)], args := [d1, d2] }
  | _ => none }
def SumFindsWrongFalsely : Prop := sumFindsRow.holds Try.pinned (OpenSpec.ofChange sumFindsWrong)

/-- 'annexlaw2.SumPlace': WHATEVER THE INPUT: true; the input reads as it did. -/
def sumPlaceSpec : ChangeSpec := { name := "sumPlace", fn := fun _ => fun
  | [d1, d2, d3] => { results := [.lit (.bool true)], args := [d1, d2, d3] }
  | _ => none }
def sumPlaceRow : OpenClaim := { program := "ytmddjfplkifdmaa", sum := "38b57a8daa9edfa5bbe26716e79be14f34f9a4be5d64ef602150f7ace506d775", func := "annex/annexlaw2.SumPlace", spec := "sumPlace", apart := false }
def SumPlaceSaid : Prop := sumPlaceRow.holds Try.pinned (OpenSpec.ofChange sumPlaceSpec)

/-- ITS FALSE NEIGHBOUR: 'it returns false'. Refute it at one input. -/
def sumPlaceWrong : ChangeSpec := { name := "sumPlace", fn := fun _ => fun
  | [d1, d2, d3] => { results := [.lit (.bool false)], args := [d1, d2, d3] }
  | _ => none }
def SumPlaceWrongFalsely : Prop := sumPlaceRow.holds Try.pinned (OpenSpec.ofChange sumPlaceWrong)

/- THE SECOND FORM. 'bulk': how many values and letters a reading holds, each counted each time it is reached (what is shared counts as often as it is met; a slice's spare places count too). A statement '..UptoSaid' is the law's where the arguments, and the package variables that the reading takes, are together of bulk at most 1048576: NARROWER than '..Said'. Prove '..Said' where nothing that the law and all that it calls make is longer than what came in: it says more and counts as full. Else prove '..UptoSaid'. A law counts once. -/
mutual
def uptoBulk {H : Type} : DataW H → Nat
  | .lit (.string bytes) => bytes.length + 1
  | .lit _ => 1
  | .nil => 1
  | .ptr d => uptoBulk d + 1
  | .slice elems spare => uptoBulkAll elems + uptoBulkAll spare + 1
  | .agg parts => uptoBulkAll parts + 1
  | .iface _ d => uptoBulk d + 1
  | .map entries => uptoBulkEntries entries + 1
  | .held _ => 1
def uptoBulkAll {H : Type} : List (DataW H) → Nat
  | [] => 0
  | d :: r => uptoBulk d + uptoBulkAll r
def uptoBulkEntries {H : Type} : List (Lit × DataW H) → Nat
  | [] => 0
  | x :: r => uptoBulkEntry x + uptoBulkEntries r
def uptoBulkEntry {H : Type} : Lit × DataW H → Nat
  | (.string bytes, d) => bytes.length + uptoBulk d + 1
  | (_, d) => uptoBulk d + 1
 end
def uptoSmall : (H : Type) → List (DataW H) → Bool := fun _ ds => decide (uptoBulkAll ds ≤ 1048576)
def OpenSpec.upto (s : _root_.Go.ChangeSpec) : _root_.Go.OpenSpec := { _root_.Go.OpenSpec.ofChange s with cond := some uptoSmall }

/-- 'annexlaw2.SumSums', WHERE WHAT IT READS IS OF BULK AT MOST 1048576: true; the input reads as it did. -/
def sumSumsUptoRow : OpenClaim := { program := "ytmddjfplkifdmaa", sum := "38b57a8daa9edfa5bbe26716e79be14f34f9a4be5d64ef602150f7ace506d775", func := "annex/annexlaw2.SumSums", spec := "sumSums", apart := false, narrowed := true }
def SumSumsUptoSaid : Prop := sumSumsUptoRow.holds Try.pinned (OpenSpec.upto sumSumsSpec)

/-- 'annexlaw2.SumMores', WHERE WHAT IT READS IS OF BULK AT MOST 1048576: true; the input reads as it did. -/
def sumMoresUptoRow : OpenClaim := { program := "ytmddjfplkifdmaa", sum := "38b57a8daa9edfa5bbe26716e79be14f34f9a4be5d64ef602150f7ace506d775", func := "annex/annexlaw2.SumMores", spec := "sumMores", apart := false, narrowed := true }
def SumMoresUptoSaid : Prop := sumMoresUptoRow.holds Try.pinned (OpenSpec.upto sumMoresSpec)

/-- 'annexlaw2.SumBacks', WHERE WHAT IT READS IS OF BULK AT MOST 1048576: true; the input reads as it did. -/
def sumBacksUptoRow : OpenClaim := { program := "ytmddjfplkifdmaa", sum := "38b57a8daa9edfa5bbe26716e79be14f34f9a4be5d64ef602150f7ace506d775", func := "annex/annexlaw2.SumBacks", spec := "sumBacks", apart := false, narrowed := true }
def SumBacksUptoSaid : Prop := sumBacksUptoRow.holds Try.pinned (OpenSpec.upto sumBacksSpec)

/-- 'annexlaw2.SumJoins', WHERE WHAT IT READS IS OF BULK AT MOST 1048576: true; the input reads as it did. -/
def sumJoinsUptoRow : OpenClaim := { program := "ytmddjfplkifdmaa", sum := "38b57a8daa9edfa5bbe26716e79be14f34f9a4be5d64ef602150f7ace506d775", func := "annex/annexlaw2.SumJoins", spec := "sumJoins", apart := false, narrowed := true }
def SumJoinsUptoSaid : Prop := sumJoinsUptoRow.holds Try.pinned (OpenSpec.upto sumJoinsSpec)

/-- 'annexlaw2.SumUndoes', WHERE WHAT IT READS IS OF BULK AT MOST 1048576: true; the input reads as it did. -/
def sumUndoesUptoRow : OpenClaim := { program := "ytmddjfplkifdmaa", sum := "38b57a8daa9edfa5bbe26716e79be14f34f9a4be5d64ef602150f7ace506d775", func := "annex/annexlaw2.SumUndoes", spec := "sumUndoes", apart := false, narrowed := true }
def SumUndoesUptoSaid : Prop := sumUndoesUptoRow.holds Try.pinned (OpenSpec.upto sumUndoesSpec)

/-- 'annexlaw2.SumApart', WHERE WHAT IT READS IS OF BULK AT MOST 1048576: true; the input reads as it did. -/
def sumApartUptoRow : OpenClaim := { program := "ytmddjfplkifdmaa", sum := "38b57a8daa9edfa5bbe26716e79be14f34f9a4be5d64ef602150f7ace506d775", func := "annex/annexlaw2.SumApart", spec := "sumApart", apart := false, narrowed := true }
def SumApartUptoSaid : Prop := sumApartUptoRow.holds Try.pinned (OpenSpec.upto sumApartSpec)

/-- 'annexlaw2.SumNear', WHERE WHAT IT READS IS OF BULK AT MOST 1048576: true; the input reads as it did. -/
def sumNearUptoRow : OpenClaim := { program := "ytmddjfplkifdmaa", sum := "38b57a8daa9edfa5bbe26716e79be14f34f9a4be5d64ef602150f7ace506d775", func := "annex/annexlaw2.SumNear", spec := "sumNear", apart := false, narrowed := true }
def SumNearUptoSaid : Prop := sumNearUptoRow.holds Try.pinned (OpenSpec.upto sumNearSpec)

/-- 'annexlaw2.SumPlays', WHERE WHAT IT READS IS OF BULK AT MOST 1048576: true; the input reads as it did. -/
def sumPlaysUptoRow : OpenClaim := { program := "ytmddjfplkifdmaa", sum := "38b57a8daa9edfa5bbe26716e79be14f34f9a4be5d64ef602150f7ace506d775", func := "annex/annexlaw2.SumPlays", spec := "sumPlays", apart := false, narrowed := true }
def SumPlaysUptoSaid : Prop := sumPlaysUptoRow.holds Try.pinned (OpenSpec.upto sumPlaysSpec)

/-- 'annexlaw2.SumMends', WHERE WHAT IT READS IS OF BULK AT MOST 1048576: true; the input reads as it did. -/
def sumMendsUptoRow : OpenClaim := { program := "ytmddjfplkifdmaa", sum := "38b57a8daa9edfa5bbe26716e79be14f34f9a4be5d64ef602150f7ace506d775", func := "annex/annexlaw2.SumMends", spec := "sumMends", apart := false, narrowed := true }
def SumMendsUptoSaid : Prop := sumMendsUptoRow.holds Try.pinned (OpenSpec.upto sumMendsSpec)

/-- 'annexlaw2.SumMended', WHERE WHAT IT READS IS OF BULK AT MOST 1048576: true; the input reads as it did. -/
def sumMendedUptoRow : OpenClaim := { program := "ytmddjfplkifdmaa", sum := "38b57a8daa9edfa5bbe26716e79be14f34f9a4be5d64ef602150f7ace506d775", func := "annex/annexlaw2.SumMended", spec := "sumMended", apart := false, narrowed := true }
def SumMendedUptoSaid : Prop := sumMendedUptoRow.holds Try.pinned (OpenSpec.upto sumMendedSpec)

/-- 'annexlaw2.SumFinds', WHERE WHAT IT READS IS OF BULK AT MOST 1048576: true; the input reads as it did. -/
def sumFindsUptoRow : OpenClaim := { program := "ytmddjfplkifdmaa", sum := "38b57a8daa9edfa5bbe26716e79be14f34f9a4be5d64ef602150f7ace506d775", func := "annex/annexlaw2.SumFinds", spec := "sumFinds", apart := false, narrowed := true }
def SumFindsUptoSaid : Prop := sumFindsUptoRow.holds Try.pinned (OpenSpec.upto sumFindsSpec)

/-- 'annexlaw2.SumPlace', WHERE WHAT IT READS IS OF BULK AT MOST 1048576: true; the input reads as it did. -/
def sumPlaceUptoRow : OpenClaim := { program := "ytmddjfplkifdmaa", sum := "38b57a8daa9edfa5bbe26716e79be14f34f9a4be5d64ef602150f7ace506d775", func := "annex/annexlaw2.SumPlace", spec := "sumPlace", apart := false, narrowed := true }
def SumPlaceUptoSaid : Prop := sumPlaceUptoRow.holds Try.pinned (OpenSpec.upto sumPlaceSpec)

end Rows
end Go.Proofs.Ytmddjfplkifdmaa
