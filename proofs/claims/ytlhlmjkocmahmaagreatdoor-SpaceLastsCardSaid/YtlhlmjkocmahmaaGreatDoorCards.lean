/-
  DERIVED. GIVEN WITH THE SEED: THE CARDS: each row of YtlhlmjkocmahmaaGreatDoorRows.lean that lists a variable, with what it lists TIED to the program's text (the seventh form; the later family's looks); each row that meets fmt, with fmt's text TOLD by the authors' own Lean function (tested against real Go, not proved from fmt's source: count such statements apart). THE CARD IS WHAT COUNTS. Prove the row's statement (the work); the ties are given (YtlhlmjkocmahmaaGreatDoorTie.lean); close each card by the builder's one call (the guide's Derived/Test/ToyasCard.lean, 'card_holds'). Laid BY PROGRAM, IN A SANDBOX (cutbox-door.mjs). By AI agents, Wed Nov 11 2026. No macro, syntax, notation, axiom, sorry.
-/
import Derived.Test.YtlhlmjkocmahmaaGreatDoorRows
import GoSem.ClaimSeven
namespace Go.Proofs.YtlhlmjkocmahmaaGreatDoor
namespace Rows

/-- THE TIED CARD OF 'annexlaw8.SpaceFills'. -/
def spaceFillsCard : Claim7 := { stood := { row := spaceFillsRow, standIns := [], harness := (true, "68f9569cd80cad4057ca4c1272b9ee3b74f6bf7bd8b8230d59a4b734b32c6eaf"), looks := true }, kinds := [], alts := [], laidByText := true, laidKinds := [.handle, .sentinel, .data], laidTests := true, laidLooks := .later }
def SpaceFillsCardSaid : Prop := Claim7.holds Tryz.pinned (.plain (OpenSpec.ofChange spaceFillsSpec)) spaceFillsCard

/-- THE TIED CARD OF 'annexlaw7.JournalSaves'. -/
def journalSavesCard : Claim7 := { stood := { row := journalSavesRow, standIns := [], harness := (true, "68f9569cd80cad4057ca4c1272b9ee3b74f6bf7bd8b8230d59a4b734b32c6eaf"), looks := true }, kinds := [], alts := [], laidByText := true, laidKinds := [.handle, .sentinel], laidTests := true, laidLooks := .later }
def JournalSavesCardSaid : Prop := Claim7.holds Tryz.pinned (.plain (OpenSpec.ofChange journalSavesSpec)) journalSavesCard

/-- THE TIED CARD OF 'annexlaw8.SpaceShapes'. -/
def spaceShapesCard : Claim7 := { stood := { row := spaceShapesRow, standIns := [], harness := (true, "68f9569cd80cad4057ca4c1272b9ee3b74f6bf7bd8b8230d59a4b734b32c6eaf"), looks := true }, kinds := [], alts := [], laidByText := true, laidKinds := [.handle, .sentinel, .data], laidTests := true, laidLooks := .later }
def SpaceShapesCardSaid : Prop := Claim7.holds Tryz.pinned (.plain (OpenSpec.ofChange spaceShapesSpec)) spaceShapesCard

/-- THE TIED CARD OF 'annexlaw8.SpaceLowest'. -/
def spaceLowestCard : Claim7 := { stood := { row := spaceLowestRow, standIns := [], harness := (true, "68f9569cd80cad4057ca4c1272b9ee3b74f6bf7bd8b8230d59a4b734b32c6eaf"), looks := true }, kinds := [], alts := [], laidByText := true, laidKinds := [.handle, .sentinel, .data], laidTests := true, laidLooks := .later }
def SpaceLowestCardSaid : Prop := Claim7.holds Tryz.pinned (.plain (OpenSpec.ofChange spaceLowestSpec)) spaceLowestCard

/-- THE TIED CARD OF 'annexlaw8.SpaceEnded'. -/
def spaceEndedCard : Claim7 := { stood := { row := spaceEndedRow, standIns := [], harness := (true, "68f9569cd80cad4057ca4c1272b9ee3b74f6bf7bd8b8230d59a4b734b32c6eaf"), looks := true }, kinds := [], alts := [], laidByText := true, laidKinds := [.handle, .sentinel, .data], laidTests := true, laidLooks := .later }
def SpaceEndedCardSaid : Prop := Claim7.holds Tryz.pinned (.plain (OpenSpec.ofChange spaceEndedSpec)) spaceEndedCard

/-- THE TIED CARD OF 'annexlaw8.SpaceLasts'. -/
def spaceLastsCard : Claim7 := { stood := { row := spaceLastsRow, standIns := [], harness := (true, "68f9569cd80cad4057ca4c1272b9ee3b74f6bf7bd8b8230d59a4b734b32c6eaf"), looks := true }, kinds := [], alts := [], laidByText := true, laidKinds := [.handle, .sentinel, .data], laidTests := true, laidLooks := .later }
def SpaceLastsCardSaid : Prop := Claim7.holds Tryz.pinned (.plain (OpenSpec.ofChange spaceLastsSpec)) spaceLastsCard

/-- THE SECOND FORM's CARD OF 'annexlaw8.SpaceFills'. -/
def spaceFillsUptoCard : Claim7 := { stood := { row := spaceFillsUptoRow, standIns := [], harness := (true, "68f9569cd80cad4057ca4c1272b9ee3b74f6bf7bd8b8230d59a4b734b32c6eaf"), looks := true }, kinds := [], alts := [], laidByText := true, laidKinds := [.handle, .sentinel, .data], laidTests := true, laidLooks := .later }
def SpaceFillsUptoCardSaid : Prop := Claim7.holds Tryz.pinned (.plain (OpenSpec.upto spaceFillsSpec)) spaceFillsUptoCard

/-- THE SECOND FORM's CARD OF 'annexlaw7.JournalSaves'. -/
def journalSavesUptoCard : Claim7 := { stood := { row := journalSavesUptoRow, standIns := [], harness := (true, "68f9569cd80cad4057ca4c1272b9ee3b74f6bf7bd8b8230d59a4b734b32c6eaf"), looks := true }, kinds := [], alts := [], laidByText := true, laidKinds := [.handle, .sentinel], laidTests := true, laidLooks := .later }
def JournalSavesUptoCardSaid : Prop := Claim7.holds Tryz.pinned (.plain (OpenSpec.upto journalSavesSpec)) journalSavesUptoCard

/-- THE SECOND FORM's CARD OF 'annexlaw8.SpaceShapes'. -/
def spaceShapesUptoCard : Claim7 := { stood := { row := spaceShapesUptoRow, standIns := [], harness := (true, "68f9569cd80cad4057ca4c1272b9ee3b74f6bf7bd8b8230d59a4b734b32c6eaf"), looks := true }, kinds := [], alts := [], laidByText := true, laidKinds := [.handle, .sentinel, .data], laidTests := true, laidLooks := .later }
def SpaceShapesUptoCardSaid : Prop := Claim7.holds Tryz.pinned (.plain (OpenSpec.upto spaceShapesSpec)) spaceShapesUptoCard

/-- THE SECOND FORM's CARD OF 'annexlaw8.SpaceLowest'. -/
def spaceLowestUptoCard : Claim7 := { stood := { row := spaceLowestUptoRow, standIns := [], harness := (true, "68f9569cd80cad4057ca4c1272b9ee3b74f6bf7bd8b8230d59a4b734b32c6eaf"), looks := true }, kinds := [], alts := [], laidByText := true, laidKinds := [.handle, .sentinel, .data], laidTests := true, laidLooks := .later }
def SpaceLowestUptoCardSaid : Prop := Claim7.holds Tryz.pinned (.plain (OpenSpec.upto spaceLowestSpec)) spaceLowestUptoCard

/-- THE SECOND FORM's CARD OF 'annexlaw8.SpaceEnded'. -/
def spaceEndedUptoCard : Claim7 := { stood := { row := spaceEndedUptoRow, standIns := [], harness := (true, "68f9569cd80cad4057ca4c1272b9ee3b74f6bf7bd8b8230d59a4b734b32c6eaf"), looks := true }, kinds := [], alts := [], laidByText := true, laidKinds := [.handle, .sentinel, .data], laidTests := true, laidLooks := .later }
def SpaceEndedUptoCardSaid : Prop := Claim7.holds Tryz.pinned (.plain (OpenSpec.upto spaceEndedSpec)) spaceEndedUptoCard

/-- THE SECOND FORM's CARD OF 'annexlaw8.SpaceLasts'. -/
def spaceLastsUptoCard : Claim7 := { stood := { row := spaceLastsUptoRow, standIns := [], harness := (true, "68f9569cd80cad4057ca4c1272b9ee3b74f6bf7bd8b8230d59a4b734b32c6eaf"), looks := true }, kinds := [], alts := [], laidByText := true, laidKinds := [.handle, .sentinel, .data], laidTests := true, laidLooks := .later }
def SpaceLastsUptoCardSaid : Prop := Claim7.holds Tryz.pinned (.plain (OpenSpec.upto spaceLastsSpec)) spaceLastsUptoCard
end Rows
end Go.Proofs.YtlhlmjkocmahmaaGreatDoor
