/-
  DERIVED. GIVEN WITH THE SEED: THE CARDS: each row of YtoaeejeimcahhaaGreatDoorRows.lean that lists a variable, with what it lists TIED to the program's text (the seventh form; the later family's looks); each row that meets fmt, with fmt's text TOLD by the authors' own Lean function (tested against real Go, not proved from fmt's source: count such statements apart). THE CARD IS WHAT COUNTS. Prove the row's statement (the work); the ties are given (YtoaeejeimcahhaaGreatDoorTie.lean); close each card by the builder's one call (the guide's Derived/Test/ToyasCard.lean, 'card_holds'). Laid BY PROGRAM, IN A SANDBOX (cutbox-door.mjs). By AI agents, Wed Nov 11 2026. No macro, syntax, notation, axiom, sorry.
-/
import Derived.Test.YtoaeejeimcahhaaGreatDoorRows
import GoSem.ClaimSeven
namespace Go.Proofs.YtoaeejeimcahhaaGreatDoor
namespace Rows

/-- THE TIED CARD OF 'scarflaw21.ReportTexts'. -/
def reportTextsCard : Claim7 := { stood := { row := reportTextsRow, standIns := [], harness := (true, "3c6824fcfc750bf22dd78e4ac470e2647b5ed676b7b4ad316832c7c65650387c"), looks := true }, kinds := [], alts := [], laidByText := true, laidKinds := [.data, .data, .data, .data, .sentinel, .sentinel, .pinned], laidTests := true, laidLooks := .later }
def ReportTextsCardSaid : Prop := Claim7.holds Tryz.pinned (.plain (OpenSpec.ofChange reportTextsSpec)) reportTextsCard

/-- THE TIED CARD OF 'scarflaw21.ReportReads'. -/
def reportReadsCard : Claim7 := { stood := { row := reportReadsRow, standIns := [], harness := (true, "3c6824fcfc750bf22dd78e4ac470e2647b5ed676b7b4ad316832c7c65650387c"), looks := true }, kinds := [], alts := [], laidByText := true, laidKinds := [.data, .data, .data, .data, .sentinel, .sentinel, .pinned], laidTests := true, laidLooks := .later }
def ReportReadsCardSaid : Prop := Claim7.holds Tryz.pinned (.plain (OpenSpec.ofChange reportReadsSpec)) reportReadsCard

/-- THE TIED CARD OF 'scarflaw21.ReportBack'. -/
def reportBackCard : Claim7 := { stood := { row := reportBackRow, standIns := [], harness := (true, "3c6824fcfc750bf22dd78e4ac470e2647b5ed676b7b4ad316832c7c65650387c"), looks := true }, kinds := [], alts := [], laidByText := true, laidKinds := [.data, .data, .data, .data, .sentinel, .sentinel, .pinned], laidTests := true, laidLooks := .later }
def ReportBackCardSaid : Prop := Claim7.holds Tryz.pinned (.plain (OpenSpec.ofChange reportBackSpec)) reportBackCard

/-- THE TIED CARD OF 'scarflaw21.ReportLines'. -/
def reportLinesCard : Claim7 := { stood := { row := reportLinesRow, standIns := [], harness := (true, "3c6824fcfc750bf22dd78e4ac470e2647b5ed676b7b4ad316832c7c65650387c"), looks := true }, kinds := [], alts := [], laidByText := true, laidKinds := [.data, .data, .data, .data, .sentinel, .sentinel, .pinned], laidTests := true, laidLooks := .later }
def ReportLinesCardSaid : Prop := Claim7.holds Tryz.pinned (.plain (OpenSpec.ofChange reportLinesSpec)) reportLinesCard

/-- THE SECOND FORM's CARD OF 'scarflaw21.ReportTexts'. -/
def reportTextsUptoCard : Claim7 := { stood := { row := reportTextsUptoRow, standIns := [], harness := (true, "3c6824fcfc750bf22dd78e4ac470e2647b5ed676b7b4ad316832c7c65650387c"), looks := true }, kinds := [], alts := [], laidByText := true, laidKinds := [.data, .data, .data, .data, .sentinel, .sentinel, .pinned], laidTests := true, laidLooks := .later }
def ReportTextsUptoCardSaid : Prop := Claim7.holds Tryz.pinned (.plain (OpenSpec.upto reportTextsSpec)) reportTextsUptoCard

/-- THE SECOND FORM's CARD OF 'scarflaw21.ReportReads'. -/
def reportReadsUptoCard : Claim7 := { stood := { row := reportReadsUptoRow, standIns := [], harness := (true, "3c6824fcfc750bf22dd78e4ac470e2647b5ed676b7b4ad316832c7c65650387c"), looks := true }, kinds := [], alts := [], laidByText := true, laidKinds := [.data, .data, .data, .data, .sentinel, .sentinel, .pinned], laidTests := true, laidLooks := .later }
def ReportReadsUptoCardSaid : Prop := Claim7.holds Tryz.pinned (.plain (OpenSpec.upto reportReadsSpec)) reportReadsUptoCard

/-- THE SECOND FORM's CARD OF 'scarflaw21.ReportBack'. -/
def reportBackUptoCard : Claim7 := { stood := { row := reportBackUptoRow, standIns := [], harness := (true, "3c6824fcfc750bf22dd78e4ac470e2647b5ed676b7b4ad316832c7c65650387c"), looks := true }, kinds := [], alts := [], laidByText := true, laidKinds := [.data, .data, .data, .data, .sentinel, .sentinel, .pinned], laidTests := true, laidLooks := .later }
def ReportBackUptoCardSaid : Prop := Claim7.holds Tryz.pinned (.plain (OpenSpec.upto reportBackSpec)) reportBackUptoCard

/-- THE SECOND FORM's CARD OF 'scarflaw21.ReportLines'. -/
def reportLinesUptoCard : Claim7 := { stood := { row := reportLinesUptoRow, standIns := [], harness := (true, "3c6824fcfc750bf22dd78e4ac470e2647b5ed676b7b4ad316832c7c65650387c"), looks := true }, kinds := [], alts := [], laidByText := true, laidKinds := [.data, .data, .data, .data, .sentinel, .sentinel, .pinned], laidTests := true, laidLooks := .later }
def ReportLinesUptoCardSaid : Prop := Claim7.holds Tryz.pinned (.plain (OpenSpec.upto reportLinesSpec)) reportLinesUptoCard
end Rows
end Go.Proofs.YtoaeejeimcahhaaGreatDoor
