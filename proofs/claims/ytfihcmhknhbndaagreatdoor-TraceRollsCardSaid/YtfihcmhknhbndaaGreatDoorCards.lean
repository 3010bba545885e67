/-
  DERIVED. GIVEN WITH THE SEED: THE CARDS: each row of YtfihcmhknhbndaaGreatDoorRows.lean that lists a variable, with what it lists TIED to the program's text (the seventh form; the later family's looks); each row that meets fmt, with fmt's text TOLD by the authors' own Lean function (tested against real Go, not proved from fmt's source: count such statements apart). THE CARD IS WHAT COUNTS. Prove the row's statement (the work); the ties are given (YtfihcmhknhbndaaGreatDoorTie.lean); close each card by the builder's one call (the guide's Derived/Test/ToyasCard.lean, 'card_holds'). Laid BY PROGRAM, IN A SANDBOX (cutbox-door.mjs). By AI agents, Wed Nov 11 2026. No macro, syntax, notation, axiom, sorry.
-/
import Derived.Test.YtfihcmhknhbndaaGreatDoorRows
import GoSem.ClaimSeven
namespace Go.Proofs.YtfihcmhknhbndaaGreatDoor
namespace Rows

/-- THE TIED CARD OF 'cobblelaw09.TraceEvery'. -/
def traceEveryCard : Claim7 := { stood := { row := traceEveryRow, standIns := [], harness := (true, "39105412d60a62561ef58ab587db3a4a2db6baa934f93ff9a7794118f4b047eb"), looks := false }, kinds := [], alts := [], laidByText := true, laidKinds := [.data, .data, .data], laidTests := true, laidLooks := .later }
def TraceEveryCardSaid : Prop := Claim7.holds Tryz.pinned (.plain (OpenSpec.ofChange traceEverySpec)) traceEveryCard

/-- THE TIED CARD OF 'cobblelaw09.TraceExplained'. -/
def traceExplainedCard : Claim7 := { stood := { row := traceExplainedRow, standIns := [], harness := (true, "39105412d60a62561ef58ab587db3a4a2db6baa934f93ff9a7794118f4b047eb"), looks := false }, kinds := [], alts := [], laidByText := true, laidKinds := [.data, .data, .data], laidTests := true, laidLooks := .later }
def TraceExplainedCardSaid : Prop := Claim7.holds Tryz.pinned (.plain (OpenSpec.ofChange traceExplainedSpec)) traceExplainedCard

/-- THE TIED CARD OF 'cobblelaw09.TraceVolumes'. -/
def traceVolumesCard : Claim7 := { stood := { row := traceVolumesRow, standIns := [], harness := (true, "39105412d60a62561ef58ab587db3a4a2db6baa934f93ff9a7794118f4b047eb"), looks := false }, kinds := [], alts := [], laidByText := true, laidKinds := [.data, .data, .data], laidTests := true, laidLooks := .later }
def TraceVolumesCardSaid : Prop := Claim7.holds Tryz.pinned (.plain (OpenSpec.ofChange traceVolumesSpec)) traceVolumesCard

/-- THE TIED CARD OF 'cobblelaw09.TraceCauses'. -/
def traceCausesCard : Claim7 := { stood := { row := traceCausesRow, standIns := [], harness := (true, "39105412d60a62561ef58ab587db3a4a2db6baa934f93ff9a7794118f4b047eb"), looks := false }, kinds := [], alts := [], laidByText := true, laidKinds := [.data, .data, .data], laidTests := true, laidLooks := .later }
def TraceCausesCardSaid : Prop := Claim7.holds Tryz.pinned (.plain (OpenSpec.ofChange traceCausesSpec)) traceCausesCard

/-- THE TIED CARD OF 'cobblelaw09.TraceNext'. -/
def traceNextCard : Claim7 := { stood := { row := traceNextRow, standIns := [], harness := (true, "39105412d60a62561ef58ab587db3a4a2db6baa934f93ff9a7794118f4b047eb"), looks := false }, kinds := [], alts := [], laidByText := true, laidKinds := [.data, .data, .data], laidTests := true, laidLooks := .later }
def TraceNextCardSaid : Prop := Claim7.holds Tryz.pinned (.plain (OpenSpec.ofChange traceNextSpec)) traceNextCard

/-- THE TIED CARD OF 'cobblelaw09.TraceEvidence'. -/
def traceEvidenceCard : Claim7 := { stood := { row := traceEvidenceRow, standIns := [], harness := (true, "39105412d60a62561ef58ab587db3a4a2db6baa934f93ff9a7794118f4b047eb"), looks := false }, kinds := [], alts := [], laidByText := true, laidKinds := [.data, .data, .data], laidTests := true, laidLooks := .later }
def TraceEvidenceCardSaid : Prop := Claim7.holds Tryz.pinned (.plain (OpenSpec.ofChange traceEvidenceSpec)) traceEvidenceCard

/-- THE TIED CARD OF 'cobblelaw09.TraceCourses'. -/
def traceCoursesCard : Claim7 := { stood := { row := traceCoursesRow, standIns := [], harness := (true, "39105412d60a62561ef58ab587db3a4a2db6baa934f93ff9a7794118f4b047eb"), looks := false }, kinds := [], alts := [], laidByText := true, laidKinds := [.data, .data, .data], laidTests := true, laidLooks := .later }
def TraceCoursesCardSaid : Prop := Claim7.holds Tryz.pinned (.plain (OpenSpec.ofChange traceCoursesSpec)) traceCoursesCard

/-- THE TIED CARD OF 'cobblelaw09.TraceMaps'. -/
def traceMapsCard : Claim7 := { stood := { row := traceMapsRow, standIns := [], harness := (true, "39105412d60a62561ef58ab587db3a4a2db6baa934f93ff9a7794118f4b047eb"), looks := false }, kinds := [], alts := [], laidByText := true, laidKinds := [.data, .data, .data], laidTests := true, laidLooks := .later }
def TraceMapsCardSaid : Prop := Claim7.holds Tryz.pinned (.plain (OpenSpec.ofChange traceMapsSpec)) traceMapsCard

/-- THE TIED CARD OF 'cobblelaw09.TraceRolls'. -/
def traceRollsCard : Claim7 := { stood := { row := traceRollsRow, standIns := [], harness := (true, "39105412d60a62561ef58ab587db3a4a2db6baa934f93ff9a7794118f4b047eb"), looks := false }, kinds := [], alts := [], laidByText := true, laidKinds := [.data, .data, .data], laidTests := true, laidLooks := .later }
def TraceRollsCardSaid : Prop := Claim7.holds Tryz.pinned (.plain (OpenSpec.ofChange traceRollsSpec)) traceRollsCard

/-- THE TIED CARD OF 'cobblelaw09.TraceValues'. -/
def traceValuesCard : Claim7 := { stood := { row := traceValuesRow, standIns := [], harness := (true, "39105412d60a62561ef58ab587db3a4a2db6baa934f93ff9a7794118f4b047eb"), looks := false }, kinds := [], alts := [], laidByText := true, laidKinds := [.data, .data, .data], laidTests := true, laidLooks := .later }
def TraceValuesCardSaid : Prop := Claim7.holds Tryz.pinned (.plain (OpenSpec.ofChange traceValuesSpec)) traceValuesCard

/-- THE TIED CARD OF 'cobblelaw09.TraceBack'. -/
def traceBackCard : Claim7 := { stood := { row := traceBackRow, standIns := [], harness := (true, "39105412d60a62561ef58ab587db3a4a2db6baa934f93ff9a7794118f4b047eb"), looks := false }, kinds := [], alts := [], laidByText := true, laidKinds := [.data, .data, .data], laidTests := true, laidLooks := .later }
def TraceBackCardSaid : Prop := Claim7.holds Tryz.pinned (.plain (OpenSpec.ofChange traceBackSpec)) traceBackCard

/-- THE SECOND FORM's CARD OF 'cobblelaw09.TraceEvery'. -/
def traceEveryUptoCard : Claim7 := { stood := { row := traceEveryUptoRow, standIns := [], harness := (true, "39105412d60a62561ef58ab587db3a4a2db6baa934f93ff9a7794118f4b047eb"), looks := false }, kinds := [], alts := [], laidByText := true, laidKinds := [.data, .data, .data], laidTests := true, laidLooks := .later }
def TraceEveryUptoCardSaid : Prop := Claim7.holds Tryz.pinned (.plain (OpenSpec.upto traceEverySpec)) traceEveryUptoCard

/-- THE SECOND FORM's CARD OF 'cobblelaw09.TraceExplained'. -/
def traceExplainedUptoCard : Claim7 := { stood := { row := traceExplainedUptoRow, standIns := [], harness := (true, "39105412d60a62561ef58ab587db3a4a2db6baa934f93ff9a7794118f4b047eb"), looks := false }, kinds := [], alts := [], laidByText := true, laidKinds := [.data, .data, .data], laidTests := true, laidLooks := .later }
def TraceExplainedUptoCardSaid : Prop := Claim7.holds Tryz.pinned (.plain (OpenSpec.upto traceExplainedSpec)) traceExplainedUptoCard

/-- THE SECOND FORM's CARD OF 'cobblelaw09.TraceVolumes'. -/
def traceVolumesUptoCard : Claim7 := { stood := { row := traceVolumesUptoRow, standIns := [], harness := (true, "39105412d60a62561ef58ab587db3a4a2db6baa934f93ff9a7794118f4b047eb"), looks := false }, kinds := [], alts := [], laidByText := true, laidKinds := [.data, .data, .data], laidTests := true, laidLooks := .later }
def TraceVolumesUptoCardSaid : Prop := Claim7.holds Tryz.pinned (.plain (OpenSpec.upto traceVolumesSpec)) traceVolumesUptoCard

/-- THE SECOND FORM's CARD OF 'cobblelaw09.TraceCauses'. -/
def traceCausesUptoCard : Claim7 := { stood := { row := traceCausesUptoRow, standIns := [], harness := (true, "39105412d60a62561ef58ab587db3a4a2db6baa934f93ff9a7794118f4b047eb"), looks := false }, kinds := [], alts := [], laidByText := true, laidKinds := [.data, .data, .data], laidTests := true, laidLooks := .later }
def TraceCausesUptoCardSaid : Prop := Claim7.holds Tryz.pinned (.plain (OpenSpec.upto traceCausesSpec)) traceCausesUptoCard

/-- THE SECOND FORM's CARD OF 'cobblelaw09.TraceNext'. -/
def traceNextUptoCard : Claim7 := { stood := { row := traceNextUptoRow, standIns := [], harness := (true, "39105412d60a62561ef58ab587db3a4a2db6baa934f93ff9a7794118f4b047eb"), looks := false }, kinds := [], alts := [], laidByText := true, laidKinds := [.data, .data, .data], laidTests := true, laidLooks := .later }
def TraceNextUptoCardSaid : Prop := Claim7.holds Tryz.pinned (.plain (OpenSpec.upto traceNextSpec)) traceNextUptoCard

/-- THE SECOND FORM's CARD OF 'cobblelaw09.TraceEvidence'. -/
def traceEvidenceUptoCard : Claim7 := { stood := { row := traceEvidenceUptoRow, standIns := [], harness := (true, "39105412d60a62561ef58ab587db3a4a2db6baa934f93ff9a7794118f4b047eb"), looks := false }, kinds := [], alts := [], laidByText := true, laidKinds := [.data, .data, .data], laidTests := true, laidLooks := .later }
def TraceEvidenceUptoCardSaid : Prop := Claim7.holds Tryz.pinned (.plain (OpenSpec.upto traceEvidenceSpec)) traceEvidenceUptoCard

/-- THE SECOND FORM's CARD OF 'cobblelaw09.TraceCourses'. -/
def traceCoursesUptoCard : Claim7 := { stood := { row := traceCoursesUptoRow, standIns := [], harness := (true, "39105412d60a62561ef58ab587db3a4a2db6baa934f93ff9a7794118f4b047eb"), looks := false }, kinds := [], alts := [], laidByText := true, laidKinds := [.data, .data, .data], laidTests := true, laidLooks := .later }
def TraceCoursesUptoCardSaid : Prop := Claim7.holds Tryz.pinned (.plain (OpenSpec.upto traceCoursesSpec)) traceCoursesUptoCard

/-- THE SECOND FORM's CARD OF 'cobblelaw09.TraceMaps'. -/
def traceMapsUptoCard : Claim7 := { stood := { row := traceMapsUptoRow, standIns := [], harness := (true, "39105412d60a62561ef58ab587db3a4a2db6baa934f93ff9a7794118f4b047eb"), looks := false }, kinds := [], alts := [], laidByText := true, laidKinds := [.data, .data, .data], laidTests := true, laidLooks := .later }
def TraceMapsUptoCardSaid : Prop := Claim7.holds Tryz.pinned (.plain (OpenSpec.upto traceMapsSpec)) traceMapsUptoCard

/-- THE SECOND FORM's CARD OF 'cobblelaw09.TraceRolls'. -/
def traceRollsUptoCard : Claim7 := { stood := { row := traceRollsUptoRow, standIns := [], harness := (true, "39105412d60a62561ef58ab587db3a4a2db6baa934f93ff9a7794118f4b047eb"), looks := false }, kinds := [], alts := [], laidByText := true, laidKinds := [.data, .data, .data], laidTests := true, laidLooks := .later }
def TraceRollsUptoCardSaid : Prop := Claim7.holds Tryz.pinned (.plain (OpenSpec.upto traceRollsSpec)) traceRollsUptoCard

/-- THE SECOND FORM's CARD OF 'cobblelaw09.TraceValues'. -/
def traceValuesUptoCard : Claim7 := { stood := { row := traceValuesUptoRow, standIns := [], harness := (true, "39105412d60a62561ef58ab587db3a4a2db6baa934f93ff9a7794118f4b047eb"), looks := false }, kinds := [], alts := [], laidByText := true, laidKinds := [.data, .data, .data], laidTests := true, laidLooks := .later }
def TraceValuesUptoCardSaid : Prop := Claim7.holds Tryz.pinned (.plain (OpenSpec.upto traceValuesSpec)) traceValuesUptoCard

/-- THE SECOND FORM's CARD OF 'cobblelaw09.TraceBack'. -/
def traceBackUptoCard : Claim7 := { stood := { row := traceBackUptoRow, standIns := [], harness := (true, "39105412d60a62561ef58ab587db3a4a2db6baa934f93ff9a7794118f4b047eb"), looks := false }, kinds := [], alts := [], laidByText := true, laidKinds := [.data, .data, .data], laidTests := true, laidLooks := .later }
def TraceBackUptoCardSaid : Prop := Claim7.holds Tryz.pinned (.plain (OpenSpec.upto traceBackSpec)) traceBackUptoCard
end Rows
end Go.Proofs.YtfihcmhknhbndaaGreatDoor
