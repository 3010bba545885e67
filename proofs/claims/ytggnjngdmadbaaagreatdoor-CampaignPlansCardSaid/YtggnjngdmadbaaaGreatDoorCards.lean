/-
  DERIVED. GIVEN WITH THE SEED: THE CARDS: each row of YtggnjngdmadbaaaGreatDoorRows.lean that lists a variable, with what it lists TIED to the program's text (the seventh form; the later family's looks); each row that meets fmt, with fmt's text TOLD by the authors' own Lean function (tested against real Go, not proved from fmt's source: count such statements apart). THE CARD IS WHAT COUNTS. Prove the row's statement (the work); the ties are given (YtggnjngdmadbaaaGreatDoorTie.lean); close each card by the builder's one call (the guide's Derived/Test/ToyasCard.lean, 'card_holds'). Laid BY PROGRAM, IN A SANDBOX (cutbox-door.mjs). By AI agents, Wed Nov 11 2026. No macro, syntax, notation, axiom, sorry.
-/
import Derived.Test.YtggnjngdmadbaaaGreatDoorRows
import GoSem.ClaimSeven
namespace Go.Proofs.YtggnjngdmadbaaaGreatDoor
namespace Rows

/-- THE TIED CARD OF 'cobblelaw01.CampaignVolume'. -/
def campaignVolumeCard : Claim7 := { stood := { row := campaignVolumeRow, standIns := [], harness := (true, "09afae0ca9ec711746c75b5b5caedd0aa7f11b65afe4b6ae38ad20c905d73d61"), looks := true }, kinds := [], alts := [], laidByText := true, laidKinds := [.data, .data, .data, .data, .sentinel, .sentinel, .pinned], laidTests := true, laidLooks := .later }
def CampaignVolumeCardSaid : Prop := Claim7.holds Tryz.pinned (.plain (OpenSpec.ofChange campaignVolumeSpec)) campaignVolumeCard

/-- THE TIED CARD OF 'cobblelaw01.CampaignCheapest'. -/
def campaignCheapestCard : Claim7 := { stood := { row := campaignCheapestRow, standIns := [], harness := (true, "09afae0ca9ec711746c75b5b5caedd0aa7f11b65afe4b6ae38ad20c905d73d61"), looks := true }, kinds := [], alts := [], laidByText := true, laidKinds := [.data, .data, .data, .data, .sentinel, .sentinel, .pinned], laidTests := true, laidLooks := .later }
def CampaignCheapestCardSaid : Prop := Claim7.holds Tryz.pinned (.plain (OpenSpec.ofChange campaignCheapestSpec)) campaignCheapestCard

/-- THE TIED CARD OF 'cobblelaw01.CampaignSuits'. -/
def campaignSuitsCard : Claim7 := { stood := { row := campaignSuitsRow, standIns := [], harness := (true, "09afae0ca9ec711746c75b5b5caedd0aa7f11b65afe4b6ae38ad20c905d73d61"), looks := true }, kinds := [], alts := [], laidByText := true, laidKinds := [.data, .data, .data, .data, .sentinel, .sentinel, .pinned], laidTests := true, laidLooks := .later }
def CampaignSuitsCardSaid : Prop := Claim7.holds Tryz.pinned (.plain (OpenSpec.ofChange campaignSuitsSpec)) campaignSuitsCard

/-- THE TIED CARD OF 'cobblelaw01.CampaignYards'. -/
def campaignYardsCard : Claim7 := { stood := { row := campaignYardsRow, standIns := [], harness := (true, "09afae0ca9ec711746c75b5b5caedd0aa7f11b65afe4b6ae38ad20c905d73d61"), looks := true }, kinds := [], alts := [], laidByText := true, laidKinds := [.data, .data, .data, .data, .sentinel, .sentinel, .pinned], laidTests := true, laidLooks := .later }
def CampaignYardsCardSaid : Prop := Claim7.holds Tryz.pinned (.plain (OpenSpec.ofChange campaignYardsSpec)) campaignYardsCard

/-- THE TIED CARD OF 'cobblelaw01.CampaignViolations'. -/
def campaignViolationsCard : Claim7 := { stood := { row := campaignViolationsRow, standIns := [], harness := (true, "09afae0ca9ec711746c75b5b5caedd0aa7f11b65afe4b6ae38ad20c905d73d61"), looks := true }, kinds := [], alts := [], laidByText := true, laidKinds := [.data, .data, .data, .data, .sentinel, .sentinel, .pinned], laidTests := true, laidLooks := .later }
def CampaignViolationsCardSaid : Prop := Claim7.holds Tryz.pinned (.plain (OpenSpec.ofChange campaignViolationsSpec)) campaignViolationsCard

/-- THE TIED CARD OF 'cobblelaw01.CampaignBounded'. -/
def campaignBoundedCard : Claim7 := { stood := { row := campaignBoundedRow, standIns := [], harness := (true, "09afae0ca9ec711746c75b5b5caedd0aa7f11b65afe4b6ae38ad20c905d73d61"), looks := true }, kinds := [], alts := [], laidByText := true, laidKinds := [.data, .data, .data, .data, .sentinel, .sentinel, .pinned], laidTests := true, laidLooks := .later }
def CampaignBoundedCardSaid : Prop := Claim7.holds Tryz.pinned (.plain (OpenSpec.ofChange campaignBoundedSpec)) campaignBoundedCard

/-- THE TIED CARD OF 'cobblelaw01.CampaignClashes'. -/
def campaignClashesCard : Claim7 := { stood := { row := campaignClashesRow, standIns := [], harness := (true, "09afae0ca9ec711746c75b5b5caedd0aa7f11b65afe4b6ae38ad20c905d73d61"), looks := true }, kinds := [], alts := [], laidByText := true, laidKinds := [.data, .data, .data, .data, .sentinel, .sentinel, .pinned], laidTests := true, laidLooks := .later }
def CampaignClashesCardSaid : Prop := Claim7.holds Tryz.pinned (.plain (OpenSpec.ofChange campaignClashesSpec)) campaignClashesCard

/-- THE TIED CARD OF 'cobblelaw01.CampaignOrders'. -/
def campaignOrdersCard : Claim7 := { stood := { row := campaignOrdersRow, standIns := [], harness := (true, "09afae0ca9ec711746c75b5b5caedd0aa7f11b65afe4b6ae38ad20c905d73d61"), looks := true }, kinds := [], alts := [], laidByText := true, laidKinds := [.data, .data, .data, .data, .sentinel, .sentinel, .pinned], laidTests := true, laidLooks := .later }
def CampaignOrdersCardSaid : Prop := Claim7.holds Tryz.pinned (.plain (OpenSpec.ofChange campaignOrdersSpec)) campaignOrdersCard

/-- THE TIED CARD OF 'cobblelaw01.CampaignSlabs'. -/
def campaignSlabsCard : Claim7 := { stood := { row := campaignSlabsRow, standIns := [], harness := (true, "09afae0ca9ec711746c75b5b5caedd0aa7f11b65afe4b6ae38ad20c905d73d61"), looks := true }, kinds := [], alts := [], laidByText := true, laidKinds := [.data, .data, .data, .data, .sentinel, .sentinel, .pinned], laidTests := true, laidLooks := .later }
def CampaignSlabsCardSaid : Prop := Claim7.holds Tryz.pinned (.plain (OpenSpec.ofChange campaignSlabsSpec)) campaignSlabsCard

/-- THE TIED CARD OF 'cobblelaw01.CampaignPlans'. -/
def campaignPlansCard : Claim7 := { stood := { row := campaignPlansRow, standIns := [], harness := (true, "09afae0ca9ec711746c75b5b5caedd0aa7f11b65afe4b6ae38ad20c905d73d61"), looks := true }, kinds := [], alts := [], laidByText := true, laidKinds := [.data, .data, .data, .data, .sentinel, .sentinel, .pinned], laidTests := true, laidLooks := .later }
def CampaignPlansCardSaid : Prop := Claim7.holds Tryz.pinned (.plain (OpenSpec.ofChange campaignPlansSpec)) campaignPlansCard

/-- THE TIED CARD OF 'cobblelaw01.CampaignReached'. -/
def campaignReachedCard : Claim7 := { stood := { row := campaignReachedRow, standIns := [], harness := (true, "09afae0ca9ec711746c75b5b5caedd0aa7f11b65afe4b6ae38ad20c905d73d61"), looks := true }, kinds := [], alts := [], laidByText := true, laidKinds := [.data, .data, .data, .data, .sentinel, .sentinel, .pinned], laidTests := true, laidLooks := .later }
def CampaignReachedCardSaid : Prop := Claim7.holds Tryz.pinned (.plain (OpenSpec.ofChange campaignReachedSpec)) campaignReachedCard

/-- THE TIED CARD OF 'cobblelaw01.CampaignChanges'. -/
def campaignChangesCard : Claim7 := { stood := { row := campaignChangesRow, standIns := [], harness := (true, "09afae0ca9ec711746c75b5b5caedd0aa7f11b65afe4b6ae38ad20c905d73d61"), looks := true }, kinds := [], alts := [], laidByText := true, laidKinds := [.data, .data, .data, .data, .sentinel, .sentinel, .pinned], laidTests := true, laidLooks := .later }
def CampaignChangesCardSaid : Prop := Claim7.holds Tryz.pinned (.plain (OpenSpec.ofChange campaignChangesSpec)) campaignChangesCard

/-- THE SECOND FORM's CARD OF 'cobblelaw01.CampaignVolume'. -/
def campaignVolumeUptoCard : Claim7 := { stood := { row := campaignVolumeUptoRow, standIns := [], harness := (true, "09afae0ca9ec711746c75b5b5caedd0aa7f11b65afe4b6ae38ad20c905d73d61"), looks := true }, kinds := [], alts := [], laidByText := true, laidKinds := [.data, .data, .data, .data, .sentinel, .sentinel, .pinned], laidTests := true, laidLooks := .later }
def CampaignVolumeUptoCardSaid : Prop := Claim7.holds Tryz.pinned (.plain (OpenSpec.upto campaignVolumeSpec)) campaignVolumeUptoCard

/-- THE SECOND FORM's CARD OF 'cobblelaw01.CampaignCheapest'. -/
def campaignCheapestUptoCard : Claim7 := { stood := { row := campaignCheapestUptoRow, standIns := [], harness := (true, "09afae0ca9ec711746c75b5b5caedd0aa7f11b65afe4b6ae38ad20c905d73d61"), looks := true }, kinds := [], alts := [], laidByText := true, laidKinds := [.data, .data, .data, .data, .sentinel, .sentinel, .pinned], laidTests := true, laidLooks := .later }
def CampaignCheapestUptoCardSaid : Prop := Claim7.holds Tryz.pinned (.plain (OpenSpec.upto campaignCheapestSpec)) campaignCheapestUptoCard

/-- THE SECOND FORM's CARD OF 'cobblelaw01.CampaignSuits'. -/
def campaignSuitsUptoCard : Claim7 := { stood := { row := campaignSuitsUptoRow, standIns := [], harness := (true, "09afae0ca9ec711746c75b5b5caedd0aa7f11b65afe4b6ae38ad20c905d73d61"), looks := true }, kinds := [], alts := [], laidByText := true, laidKinds := [.data, .data, .data, .data, .sentinel, .sentinel, .pinned], laidTests := true, laidLooks := .later }
def CampaignSuitsUptoCardSaid : Prop := Claim7.holds Tryz.pinned (.plain (OpenSpec.upto campaignSuitsSpec)) campaignSuitsUptoCard

/-- THE SECOND FORM's CARD OF 'cobblelaw01.CampaignYards'. -/
def campaignYardsUptoCard : Claim7 := { stood := { row := campaignYardsUptoRow, standIns := [], harness := (true, "09afae0ca9ec711746c75b5b5caedd0aa7f11b65afe4b6ae38ad20c905d73d61"), looks := true }, kinds := [], alts := [], laidByText := true, laidKinds := [.data, .data, .data, .data, .sentinel, .sentinel, .pinned], laidTests := true, laidLooks := .later }
def CampaignYardsUptoCardSaid : Prop := Claim7.holds Tryz.pinned (.plain (OpenSpec.upto campaignYardsSpec)) campaignYardsUptoCard

/-- THE SECOND FORM's CARD OF 'cobblelaw01.CampaignViolations'. -/
def campaignViolationsUptoCard : Claim7 := { stood := { row := campaignViolationsUptoRow, standIns := [], harness := (true, "09afae0ca9ec711746c75b5b5caedd0aa7f11b65afe4b6ae38ad20c905d73d61"), looks := true }, kinds := [], alts := [], laidByText := true, laidKinds := [.data, .data, .data, .data, .sentinel, .sentinel, .pinned], laidTests := true, laidLooks := .later }
def CampaignViolationsUptoCardSaid : Prop := Claim7.holds Tryz.pinned (.plain (OpenSpec.upto campaignViolationsSpec)) campaignViolationsUptoCard

/-- THE SECOND FORM's CARD OF 'cobblelaw01.CampaignBounded'. -/
def campaignBoundedUptoCard : Claim7 := { stood := { row := campaignBoundedUptoRow, standIns := [], harness := (true, "09afae0ca9ec711746c75b5b5caedd0aa7f11b65afe4b6ae38ad20c905d73d61"), looks := true }, kinds := [], alts := [], laidByText := true, laidKinds := [.data, .data, .data, .data, .sentinel, .sentinel, .pinned], laidTests := true, laidLooks := .later }
def CampaignBoundedUptoCardSaid : Prop := Claim7.holds Tryz.pinned (.plain (OpenSpec.upto campaignBoundedSpec)) campaignBoundedUptoCard

/-- THE SECOND FORM's CARD OF 'cobblelaw01.CampaignClashes'. -/
def campaignClashesUptoCard : Claim7 := { stood := { row := campaignClashesUptoRow, standIns := [], harness := (true, "09afae0ca9ec711746c75b5b5caedd0aa7f11b65afe4b6ae38ad20c905d73d61"), looks := true }, kinds := [], alts := [], laidByText := true, laidKinds := [.data, .data, .data, .data, .sentinel, .sentinel, .pinned], laidTests := true, laidLooks := .later }
def CampaignClashesUptoCardSaid : Prop := Claim7.holds Tryz.pinned (.plain (OpenSpec.upto campaignClashesSpec)) campaignClashesUptoCard

/-- THE SECOND FORM's CARD OF 'cobblelaw01.CampaignOrders'. -/
def campaignOrdersUptoCard : Claim7 := { stood := { row := campaignOrdersUptoRow, standIns := [], harness := (true, "09afae0ca9ec711746c75b5b5caedd0aa7f11b65afe4b6ae38ad20c905d73d61"), looks := true }, kinds := [], alts := [], laidByText := true, laidKinds := [.data, .data, .data, .data, .sentinel, .sentinel, .pinned], laidTests := true, laidLooks := .later }
def CampaignOrdersUptoCardSaid : Prop := Claim7.holds Tryz.pinned (.plain (OpenSpec.upto campaignOrdersSpec)) campaignOrdersUptoCard

/-- THE SECOND FORM's CARD OF 'cobblelaw01.CampaignSlabs'. -/
def campaignSlabsUptoCard : Claim7 := { stood := { row := campaignSlabsUptoRow, standIns := [], harness := (true, "09afae0ca9ec711746c75b5b5caedd0aa7f11b65afe4b6ae38ad20c905d73d61"), looks := true }, kinds := [], alts := [], laidByText := true, laidKinds := [.data, .data, .data, .data, .sentinel, .sentinel, .pinned], laidTests := true, laidLooks := .later }
def CampaignSlabsUptoCardSaid : Prop := Claim7.holds Tryz.pinned (.plain (OpenSpec.upto campaignSlabsSpec)) campaignSlabsUptoCard

/-- THE SECOND FORM's CARD OF 'cobblelaw01.CampaignPlans'. -/
def campaignPlansUptoCard : Claim7 := { stood := { row := campaignPlansUptoRow, standIns := [], harness := (true, "09afae0ca9ec711746c75b5b5caedd0aa7f11b65afe4b6ae38ad20c905d73d61"), looks := true }, kinds := [], alts := [], laidByText := true, laidKinds := [.data, .data, .data, .data, .sentinel, .sentinel, .pinned], laidTests := true, laidLooks := .later }
def CampaignPlansUptoCardSaid : Prop := Claim7.holds Tryz.pinned (.plain (OpenSpec.upto campaignPlansSpec)) campaignPlansUptoCard

/-- THE SECOND FORM's CARD OF 'cobblelaw01.CampaignReached'. -/
def campaignReachedUptoCard : Claim7 := { stood := { row := campaignReachedUptoRow, standIns := [], harness := (true, "09afae0ca9ec711746c75b5b5caedd0aa7f11b65afe4b6ae38ad20c905d73d61"), looks := true }, kinds := [], alts := [], laidByText := true, laidKinds := [.data, .data, .data, .data, .sentinel, .sentinel, .pinned], laidTests := true, laidLooks := .later }
def CampaignReachedUptoCardSaid : Prop := Claim7.holds Tryz.pinned (.plain (OpenSpec.upto campaignReachedSpec)) campaignReachedUptoCard

/-- THE SECOND FORM's CARD OF 'cobblelaw01.CampaignChanges'. -/
def campaignChangesUptoCard : Claim7 := { stood := { row := campaignChangesUptoRow, standIns := [], harness := (true, "09afae0ca9ec711746c75b5b5caedd0aa7f11b65afe4b6ae38ad20c905d73d61"), looks := true }, kinds := [], alts := [], laidByText := true, laidKinds := [.data, .data, .data, .data, .sentinel, .sentinel, .pinned], laidTests := true, laidLooks := .later }
def CampaignChangesUptoCardSaid : Prop := Claim7.holds Tryz.pinned (.plain (OpenSpec.upto campaignChangesSpec)) campaignChangesUptoCard
end Rows
end Go.Proofs.YtggnjngdmadbaaaGreatDoor
