/-
  DERIVED. GIVEN WITH THE SEED: THE CARDS: each row of YteobfadhflofpaaGreatDoorRows.lean that lists a variable, with what it lists TIED to the program's text (the seventh form; the later family's looks); each row that meets fmt, with fmt's text TOLD by the authors' own Lean function (tested against real Go, not proved from fmt's source: count such statements apart). THE CARD IS WHAT COUNTS. Prove the row's statement (the work); the ties are given (YteobfadhflofpaaGreatDoorTie.lean); close each card by the builder's one call (the guide's Derived/Test/ToyasCard.lean, 'card_holds'). Laid BY PROGRAM, IN A SANDBOX (cutbox-door.mjs). By AI agents, Wed Nov 11 2026. No macro, syntax, notation, axiom, sorry.
-/
import Derived.Test.YteobfadhflofpaaGreatDoorRows
import GoSem.ClaimSeven
namespace Go.Proofs.YteobfadhflofpaaGreatDoor
namespace Rows

/-- THE TIED CARD OF 'cobblelaw09.TraceStrings'. -/
def traceStringsCard : Claim7 := { stood := { row := traceStringsRow, standIns := [], harness := (true, "c87fe37b90a591a29fdb175adfff295be5e6cd47735bf6f382ec8225bb1ac81b"), looks := true }, kinds := [], alts := [], laidByText := true, laidKinds := [.data, .data, .data, .data, .sentinel, .sentinel, .pinned], laidTests := true, laidLooks := .later }
def TraceStringsCardSaid : Prop := Claim7.holds Tryz.pinned (.plain (OpenSpec.ofChange traceStringsSpec)) traceStringsCard

/-- THE TIED CARD OF 'cobblelaw09.TraceReports'. -/
def traceReportsCard : Claim7 := { stood := { row := traceReportsRow, standIns := [], harness := (true, "c87fe37b90a591a29fdb175adfff295be5e6cd47735bf6f382ec8225bb1ac81b"), looks := true }, kinds := [], alts := [], laidByText := true, laidKinds := [.data, .data, .data, .data, .sentinel, .sentinel, .pinned], laidTests := true, laidLooks := .later }
def TraceReportsCardSaid : Prop := Claim7.holds Tryz.pinned (.plain (OpenSpec.ofChange traceReportsSpec)) traceReportsCard

/-- THE SECOND FORM's CARD OF 'cobblelaw09.TraceStrings'. -/
def traceStringsUptoCard : Claim7 := { stood := { row := traceStringsUptoRow, standIns := [], harness := (true, "c87fe37b90a591a29fdb175adfff295be5e6cd47735bf6f382ec8225bb1ac81b"), looks := true }, kinds := [], alts := [], laidByText := true, laidKinds := [.data, .data, .data, .data, .sentinel, .sentinel, .pinned], laidTests := true, laidLooks := .later }
def TraceStringsUptoCardSaid : Prop := Claim7.holds Tryz.pinned (.plain (OpenSpec.upto traceStringsSpec)) traceStringsUptoCard

/-- THE SECOND FORM's CARD OF 'cobblelaw09.TraceReports'. -/
def traceReportsUptoCard : Claim7 := { stood := { row := traceReportsUptoRow, standIns := [], harness := (true, "c87fe37b90a591a29fdb175adfff295be5e6cd47735bf6f382ec8225bb1ac81b"), looks := true }, kinds := [], alts := [], laidByText := true, laidKinds := [.data, .data, .data, .data, .sentinel, .sentinel, .pinned], laidTests := true, laidLooks := .later }
def TraceReportsUptoCardSaid : Prop := Claim7.holds Tryz.pinned (.plain (OpenSpec.upto traceReportsSpec)) traceReportsUptoCard
end Rows
end Go.Proofs.YteobfadhflofpaaGreatDoor
