/-
  DERIVED. GIVEN WITH THE SEED: THE CARDS: each row of YtkhkjbcnnlcamaaGreatDoorRows.lean that lists a variable, with what it lists TIED to the program's text (the seventh form; the later family's looks); each row that meets fmt, with fmt's text TOLD by the authors' own Lean function (tested against real Go, not proved from fmt's source: count such statements apart). THE CARD IS WHAT COUNTS. Prove the row's statement (the work); the ties are given (YtkhkjbcnnlcamaaGreatDoorTie.lean); close each card by the builder's one call (the guide's Derived/Test/ToyasCard.lean, 'card_holds'). Laid BY PROGRAM, IN A SANDBOX (cutbox-door.mjs). By AI agents, Wed Nov 11 2026. No macro, syntax, notation, axiom, sorry.
-/
import Derived.Test.YtkhkjbcnnlcamaaGreatDoorRows
import GoSem.ClaimSeven
namespace Go.Proofs.YtkhkjbcnnlcamaaGreatDoor
namespace Rows

/-- THE TIED CARD OF 'cobblelaw09.TracePlaces'. -/
def tracePlacesCard : Claim7 := { stood := { row := tracePlacesRow, standIns := [], harness := (true, "5496f28a545a74e054804e314c551eb1b00a0c4925d9f78d3cb74f85ac8218ac"), looks := false }, kinds := [], alts := [], laidByText := true, laidKinds := [.data, .data, .data], laidTests := true, laidLooks := .later }
def TracePlacesCardSaid : Prop := Claim7.holds Tryz.pinned (.plain (OpenSpec.ofChange tracePlacesSpec)) tracePlacesCard

/-- THE SECOND FORM's CARD OF 'cobblelaw09.TracePlaces'. -/
def tracePlacesUptoCard : Claim7 := { stood := { row := tracePlacesUptoRow, standIns := [], harness := (true, "5496f28a545a74e054804e314c551eb1b00a0c4925d9f78d3cb74f85ac8218ac"), looks := false }, kinds := [], alts := [], laidByText := true, laidKinds := [.data, .data, .data], laidTests := true, laidLooks := .later }
def TracePlacesUptoCardSaid : Prop := Claim7.holds Tryz.pinned (.plain (OpenSpec.upto tracePlacesSpec)) tracePlacesUptoCard
end Rows
end Go.Proofs.YtkhkjbcnnlcamaaGreatDoor
