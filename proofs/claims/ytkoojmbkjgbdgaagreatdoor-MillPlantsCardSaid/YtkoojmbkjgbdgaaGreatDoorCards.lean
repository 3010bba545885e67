/-
  DERIVED. GIVEN WITH THE SEED: THE CARDS: each row of YtkoojmbkjgbdgaaGreatDoorRows.lean that lists a variable, with what it lists TIED to the program's text (the seventh form; the later family's looks); each row that meets fmt, with fmt's text TOLD by the authors' own Lean function (tested against real Go, not proved from fmt's source: count such statements apart). THE CARD IS WHAT COUNTS. Prove the row's statement (the work); the ties are given (YtkoojmbkjgbdgaaGreatDoorTie.lean); close each card by the builder's one call (the guide's Derived/Test/ToyasCard.lean, 'card_holds'). Laid BY PROGRAM, IN A SANDBOX (cutbox-door.mjs). By AI agents, Wed Nov 11 2026. No macro, syntax, notation, axiom, sorry.
-/
import Derived.Test.YtkoojmbkjgbdgaaGreatDoorRows
import GoSem.ClaimSeven
namespace Go.Proofs.YtkoojmbkjgbdgaaGreatDoor
namespace Rows

/-- THE TIED CARD OF 'cobblelaw10.MillPlants'. -/
def millPlantsCard : Claim7 := { stood := { row := millPlantsRow, standIns := [], harness := (true, "c1c875e61c2c306e19e7b46852e97baca3bcf208792e23f87408bd13ec4e140f"), looks := true }, kinds := [], alts := [], laidByText := true, laidKinds := [.data, .data, .data, .data, .sentinel, .sentinel, .data, .wider, .wider, .wider, .wider, .pinned], laidTests := true, laidLooks := .later }
def MillPlantsCardSaid : Prop := Claim7.holds Tryz.pinned (.plain (OpenSpec.ofChange millPlantsSpec)) millPlantsCard

/-- THE TIED CARD OF 'cobblelaw10.MillNil'. -/
def millNilCard : Claim7 := { stood := { row := millNilRow, standIns := [], harness := (true, "c1c875e61c2c306e19e7b46852e97baca3bcf208792e23f87408bd13ec4e140f"), looks := true }, kinds := [], alts := [], laidByText := true, laidKinds := [.data, .data, .data, .data, .sentinel, .sentinel, .data, .wider, .wider, .wider, .wider, .pinned], laidTests := true, laidLooks := .later }
def MillNilCardSaid : Prop := Claim7.holds Tryz.pinned (.plain (OpenSpec.ofChange millNilSpec)) millNilCard

/-- THE TIED CARD OF 'cobblelaw10.MillCuts'. -/
def millCutsCard : Claim7 := { stood := { row := millCutsRow, standIns := [], harness := (true, "c1c875e61c2c306e19e7b46852e97baca3bcf208792e23f87408bd13ec4e140f"), looks := true }, kinds := [], alts := [], laidByText := true, laidKinds := [.data, .data, .data, .data, .sentinel, .sentinel, .data, .wider, .wider, .wider, .wider, .pinned], laidTests := true, laidLooks := .later }
def MillCutsCardSaid : Prop := Claim7.holds Tryz.pinned (.plain (OpenSpec.ofChange millCutsSpec)) millCutsCard

/-- THE SECOND FORM's CARD OF 'cobblelaw10.MillPlants'. -/
def millPlantsUptoCard : Claim7 := { stood := { row := millPlantsUptoRow, standIns := [], harness := (true, "c1c875e61c2c306e19e7b46852e97baca3bcf208792e23f87408bd13ec4e140f"), looks := true }, kinds := [], alts := [], laidByText := true, laidKinds := [.data, .data, .data, .data, .sentinel, .sentinel, .data, .wider, .wider, .wider, .wider, .pinned], laidTests := true, laidLooks := .later }
def MillPlantsUptoCardSaid : Prop := Claim7.holds Tryz.pinned (.plain (OpenSpec.upto millPlantsSpec)) millPlantsUptoCard

/-- THE SECOND FORM's CARD OF 'cobblelaw10.MillNil'. -/
def millNilUptoCard : Claim7 := { stood := { row := millNilUptoRow, standIns := [], harness := (true, "c1c875e61c2c306e19e7b46852e97baca3bcf208792e23f87408bd13ec4e140f"), looks := true }, kinds := [], alts := [], laidByText := true, laidKinds := [.data, .data, .data, .data, .sentinel, .sentinel, .data, .wider, .wider, .wider, .wider, .pinned], laidTests := true, laidLooks := .later }
def MillNilUptoCardSaid : Prop := Claim7.holds Tryz.pinned (.plain (OpenSpec.upto millNilSpec)) millNilUptoCard

/-- THE SECOND FORM's CARD OF 'cobblelaw10.MillCuts'. -/
def millCutsUptoCard : Claim7 := { stood := { row := millCutsUptoRow, standIns := [], harness := (true, "c1c875e61c2c306e19e7b46852e97baca3bcf208792e23f87408bd13ec4e140f"), looks := true }, kinds := [], alts := [], laidByText := true, laidKinds := [.data, .data, .data, .data, .sentinel, .sentinel, .data, .wider, .wider, .wider, .wider, .pinned], laidTests := true, laidLooks := .later }
def MillCutsUptoCardSaid : Prop := Claim7.holds Tryz.pinned (.plain (OpenSpec.upto millCutsSpec)) millCutsUptoCard
end Rows
end Go.Proofs.YtkoojmbkjgbdgaaGreatDoor
