/-
  DERIVED. GIVEN WITH THE SEED: THE CARDS: each row of YtmafafingdpopaaGreatDoorRows.lean that lists a variable, with what it lists TIED to the program's text (the seventh form; the later family's looks); each row that meets fmt, with fmt's text TOLD by the authors' own Lean function (tested against real Go, not proved from fmt's source: count such statements apart). THE CARD IS WHAT COUNTS. Prove the row's statement (the work); the ties are given (YtmafafingdpopaaGreatDoorTie.lean); close each card by the builder's one call (the guide's Derived/Test/ToyasCard.lean, 'card_holds'). Laid BY PROGRAM, IN A SANDBOX (cutbox-door.mjs). By AI agents, Wed Nov 11 2026. No macro, syntax, notation, axiom, sorry.
-/
import Derived.Test.YtmafafingdpopaaGreatDoorRows
import GoSem.ClaimSeven
namespace Go.Proofs.YtmafafingdpopaaGreatDoor
namespace Rows

/-- THE TIED CARD OF 'annexlaw7.JournalOwn'. -/
def journalOwnCard : Claim7 := { stood := { row := journalOwnRow, standIns := [], harness := (true, "f3d8d392df757e4d11c1378167360a9cc92eb5d832b4368975dcd617facbaee6"), looks := true }, kinds := [], alts := [], laidByText := true, laidKinds := [.handle, .sentinel], laidTests := true, laidLooks := .later }
def JournalOwnCardSaid : Prop := Claim7.holds Tryz.pinned (.plain (OpenSpec.ofChange journalOwnSpec)) journalOwnCard

/-- THE TIED CARD OF 'annexlaw7.JournalWhole'. -/
def journalWholeCard : Claim7 := { stood := { row := journalWholeRow, standIns := [], harness := (true, "f3d8d392df757e4d11c1378167360a9cc92eb5d832b4368975dcd617facbaee6"), looks := true }, kinds := [], alts := [], laidByText := true, laidKinds := [.handle, .sentinel], laidTests := true, laidLooks := .later }
def JournalWholeCardSaid : Prop := Claim7.holds Tryz.pinned (.plain (OpenSpec.ofChange journalWholeSpec)) journalWholeCard

/-- THE TIED CARD OF 'annexlaw7.JournalEvery'. -/
def journalEveryCard : Claim7 := { stood := { row := journalEveryRow, standIns := [], harness := (true, "f3d8d392df757e4d11c1378167360a9cc92eb5d832b4368975dcd617facbaee6"), looks := true }, kinds := [], alts := [], laidByText := true, laidKinds := [.handle, .sentinel], laidTests := true, laidLooks := .later }
def JournalEveryCardSaid : Prop := Claim7.holds Tryz.pinned (.plain (OpenSpec.ofChange journalEverySpec)) journalEveryCard

/-- THE TIED CARD OF 'annexlaw7.JournalSaves'. -/
def journalSavesCard : Claim7 := { stood := { row := journalSavesRow, standIns := [], harness := (true, "f3d8d392df757e4d11c1378167360a9cc92eb5d832b4368975dcd617facbaee6"), looks := true }, kinds := [], alts := [], laidByText := true, laidKinds := [.handle, .sentinel], laidTests := true, laidLooks := .later }
def JournalSavesCardSaid : Prop := Claim7.holds Tryz.pinned (.plain (OpenSpec.ofChange journalSavesSpec)) journalSavesCard

/-- THE TIED CARD OF 'annexlaw7.JournalSteps'. -/
def journalStepsCard : Claim7 := { stood := { row := journalStepsRow, standIns := [], harness := (true, "f3d8d392df757e4d11c1378167360a9cc92eb5d832b4368975dcd617facbaee6"), looks := true }, kinds := [], alts := [], laidByText := true, laidKinds := [.handle, .sentinel], laidTests := true, laidLooks := .later }
def JournalStepsCardSaid : Prop := Claim7.holds Tryz.pinned (.plain (OpenSpec.ofChange journalStepsSpec)) journalStepsCard

/-- THE TIED CARD OF 'annexlaw7.JournalAgain'. -/
def journalAgainCard : Claim7 := { stood := { row := journalAgainRow, standIns := [], harness := (true, "f3d8d392df757e4d11c1378167360a9cc92eb5d832b4368975dcd617facbaee6"), looks := true }, kinds := [], alts := [], laidByText := true, laidKinds := [.handle, .sentinel], laidTests := true, laidLooks := .later }
def JournalAgainCardSaid : Prop := Claim7.holds Tryz.pinned (.plain (OpenSpec.ofChange journalAgainSpec)) journalAgainCard

/-- THE TIED CARD OF 'annexlaw7.JournalPlays'. -/
def journalPlaysCard : Claim7 := { stood := { row := journalPlaysRow, standIns := [], harness := (true, "f3d8d392df757e4d11c1378167360a9cc92eb5d832b4368975dcd617facbaee6"), looks := true }, kinds := [], alts := [], laidByText := true, laidKinds := [.handle, .sentinel], laidTests := true, laidLooks := .later }
def JournalPlaysCardSaid : Prop := Claim7.holds Tryz.pinned (.plain (OpenSpec.ofChange journalPlaysSpec)) journalPlaysCard

/-- THE TIED CARD OF 'annexlaw7.JournalOpens'. -/
def journalOpensCard : Claim7 := { stood := { row := journalOpensRow, standIns := [], harness := (true, "f3d8d392df757e4d11c1378167360a9cc92eb5d832b4368975dcd617facbaee6"), looks := true }, kinds := [], alts := [], laidByText := true, laidKinds := [.handle, .sentinel], laidTests := true, laidLooks := .later }
def JournalOpensCardSaid : Prop := Claim7.holds Tryz.pinned (.plain (OpenSpec.ofChange journalOpensSpec)) journalOpensCard

/-- THE SECOND FORM's CARD OF 'annexlaw7.JournalOwn'. -/
def journalOwnUptoCard : Claim7 := { stood := { row := journalOwnUptoRow, standIns := [], harness := (true, "f3d8d392df757e4d11c1378167360a9cc92eb5d832b4368975dcd617facbaee6"), looks := true }, kinds := [], alts := [], laidByText := true, laidKinds := [.handle, .sentinel], laidTests := true, laidLooks := .later }
def JournalOwnUptoCardSaid : Prop := Claim7.holds Tryz.pinned (.plain (OpenSpec.upto journalOwnSpec)) journalOwnUptoCard

/-- THE SECOND FORM's CARD OF 'annexlaw7.JournalWhole'. -/
def journalWholeUptoCard : Claim7 := { stood := { row := journalWholeUptoRow, standIns := [], harness := (true, "f3d8d392df757e4d11c1378167360a9cc92eb5d832b4368975dcd617facbaee6"), looks := true }, kinds := [], alts := [], laidByText := true, laidKinds := [.handle, .sentinel], laidTests := true, laidLooks := .later }
def JournalWholeUptoCardSaid : Prop := Claim7.holds Tryz.pinned (.plain (OpenSpec.upto journalWholeSpec)) journalWholeUptoCard

/-- THE SECOND FORM's CARD OF 'annexlaw7.JournalEvery'. -/
def journalEveryUptoCard : Claim7 := { stood := { row := journalEveryUptoRow, standIns := [], harness := (true, "f3d8d392df757e4d11c1378167360a9cc92eb5d832b4368975dcd617facbaee6"), looks := true }, kinds := [], alts := [], laidByText := true, laidKinds := [.handle, .sentinel], laidTests := true, laidLooks := .later }
def JournalEveryUptoCardSaid : Prop := Claim7.holds Tryz.pinned (.plain (OpenSpec.upto journalEverySpec)) journalEveryUptoCard

/-- THE SECOND FORM's CARD OF 'annexlaw7.JournalSaves'. -/
def journalSavesUptoCard : Claim7 := { stood := { row := journalSavesUptoRow, standIns := [], harness := (true, "f3d8d392df757e4d11c1378167360a9cc92eb5d832b4368975dcd617facbaee6"), looks := true }, kinds := [], alts := [], laidByText := true, laidKinds := [.handle, .sentinel], laidTests := true, laidLooks := .later }
def JournalSavesUptoCardSaid : Prop := Claim7.holds Tryz.pinned (.plain (OpenSpec.upto journalSavesSpec)) journalSavesUptoCard

/-- THE SECOND FORM's CARD OF 'annexlaw7.JournalSteps'. -/
def journalStepsUptoCard : Claim7 := { stood := { row := journalStepsUptoRow, standIns := [], harness := (true, "f3d8d392df757e4d11c1378167360a9cc92eb5d832b4368975dcd617facbaee6"), looks := true }, kinds := [], alts := [], laidByText := true, laidKinds := [.handle, .sentinel], laidTests := true, laidLooks := .later }
def JournalStepsUptoCardSaid : Prop := Claim7.holds Tryz.pinned (.plain (OpenSpec.upto journalStepsSpec)) journalStepsUptoCard

/-- THE SECOND FORM's CARD OF 'annexlaw7.JournalAgain'. -/
def journalAgainUptoCard : Claim7 := { stood := { row := journalAgainUptoRow, standIns := [], harness := (true, "f3d8d392df757e4d11c1378167360a9cc92eb5d832b4368975dcd617facbaee6"), looks := true }, kinds := [], alts := [], laidByText := true, laidKinds := [.handle, .sentinel], laidTests := true, laidLooks := .later }
def JournalAgainUptoCardSaid : Prop := Claim7.holds Tryz.pinned (.plain (OpenSpec.upto journalAgainSpec)) journalAgainUptoCard

/-- THE SECOND FORM's CARD OF 'annexlaw7.JournalPlays'. -/
def journalPlaysUptoCard : Claim7 := { stood := { row := journalPlaysUptoRow, standIns := [], harness := (true, "f3d8d392df757e4d11c1378167360a9cc92eb5d832b4368975dcd617facbaee6"), looks := true }, kinds := [], alts := [], laidByText := true, laidKinds := [.handle, .sentinel], laidTests := true, laidLooks := .later }
def JournalPlaysUptoCardSaid : Prop := Claim7.holds Tryz.pinned (.plain (OpenSpec.upto journalPlaysSpec)) journalPlaysUptoCard

/-- THE SECOND FORM's CARD OF 'annexlaw7.JournalOpens'. -/
def journalOpensUptoCard : Claim7 := { stood := { row := journalOpensUptoRow, standIns := [], harness := (true, "f3d8d392df757e4d11c1378167360a9cc92eb5d832b4368975dcd617facbaee6"), looks := true }, kinds := [], alts := [], laidByText := true, laidKinds := [.handle, .sentinel], laidTests := true, laidLooks := .later }
def JournalOpensUptoCardSaid : Prop := Claim7.holds Tryz.pinned (.plain (OpenSpec.upto journalOpensSpec)) journalOpensUptoCard
end Rows
end Go.Proofs.YtmafafingdpopaaGreatDoor
