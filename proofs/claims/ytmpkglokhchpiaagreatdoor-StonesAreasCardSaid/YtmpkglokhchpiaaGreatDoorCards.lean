/-
  DERIVED. GIVEN WITH THE SEED: THE CARDS: each row of YtmpkglokhchpiaaGreatDoorRows.lean that lists a variable, with what it lists TIED to the program's text (the seventh form; the later family's looks); each row that meets fmt, with fmt's text TOLD by the authors' own Lean function (tested against real Go, not proved from fmt's source: count such statements apart). THE CARD IS WHAT COUNTS. Prove the row's statement (the work); the ties are given (YtmpkglokhchpiaaGreatDoorTie.lean); close each card by the builder's one call (the guide's Derived/Test/ToyasCard.lean, 'card_holds'). Laid BY PROGRAM, IN A SANDBOX (cutbox-door.mjs). By AI agents, Wed Nov 11 2026. No macro, syntax, notation, axiom, sorry.
-/
import Derived.Test.YtmpkglokhchpiaaGreatDoorRows
import GoSem.ClaimSeven
namespace Go.Proofs.YtmpkglokhchpiaaGreatDoor
namespace Rows

/-- THE TIED CARD OF 'millrindlaw01.StonesDresses'. -/
def stonesDressesCard : Claim7 := { stood := { row := stonesDressesRow, standIns := [], harness := (true, "15fa95b6276b303e19b0ad8c665ab26736583d2a9084788c8d1b076f58f8eac6"), looks := true }, kinds := [], alts := [], laidByText := true, laidKinds := [.data, .data, .data, .data, .sentinel, .sentinel, .pinned], laidTests := true, laidLooks := .later }
def StonesDressesCardSaid : Prop := Claim7.holds Tryz.pinned (.plain (OpenSpec.ofChange stonesDressesSpec)) stonesDressesCard

/-- THE TIED CARD OF 'millrindlaw01.StonesSum'. -/
def stonesSumCard : Claim7 := { stood := { row := stonesSumRow, standIns := [], harness := (true, "15fa95b6276b303e19b0ad8c665ab26736583d2a9084788c8d1b076f58f8eac6"), looks := true }, kinds := [], alts := [], laidByText := true, laidKinds := [.data, .data, .data, .data, .sentinel, .sentinel, .pinned], laidTests := true, laidLooks := .later }
def StonesSumCardSaid : Prop := Claim7.holds Tryz.pinned (.plain (OpenSpec.ofChange stonesSumSpec)) stonesSumCard

/-- THE TIED CARD OF 'millrindlaw01.StonesAreas'. -/
def stonesAreasCard : Claim7 := { stood := { row := stonesAreasRow, standIns := [], harness := (true, "15fa95b6276b303e19b0ad8c665ab26736583d2a9084788c8d1b076f58f8eac6"), looks := true }, kinds := [], alts := [], laidByText := true, laidKinds := [.data, .data, .data, .data, .sentinel, .sentinel, .pinned], laidTests := true, laidLooks := .later }
def StonesAreasCardSaid : Prop := Claim7.holds Tryz.pinned (.plain (OpenSpec.ofChange stonesAreasSpec)) stonesAreasCard

/-- THE TIED CARD OF 'millrindlaw01.StonesBeside'. -/
def stonesBesideCard : Claim7 := { stood := { row := stonesBesideRow, standIns := [], harness := (true, "15fa95b6276b303e19b0ad8c665ab26736583d2a9084788c8d1b076f58f8eac6"), looks := true }, kinds := [], alts := [], laidByText := true, laidKinds := [.data, .data, .data, .data, .sentinel, .sentinel, .pinned], laidTests := true, laidLooks := .later }
def StonesBesideCardSaid : Prop := Claim7.holds Tryz.pinned (.plain (OpenSpec.ofChange stonesBesideSpec)) stonesBesideCard

/-- THE TIED CARD OF 'millrindlaw01.StonesGroup'. -/
def stonesGroupCard : Claim7 := { stood := { row := stonesGroupRow, standIns := [], harness := (true, "15fa95b6276b303e19b0ad8c665ab26736583d2a9084788c8d1b076f58f8eac6"), looks := true }, kinds := [], alts := [], laidByText := true, laidKinds := [.data, .data, .data, .data, .sentinel, .sentinel, .pinned], laidTests := true, laidLooks := .later }
def StonesGroupCardSaid : Prop := Claim7.holds Tryz.pinned (.plain (OpenSpec.ofChange stonesGroupSpec)) stonesGroupCard

/-- THE TIED CARD OF 'millrindlaw01.StonesHarps'. -/
def stonesHarpsCard : Claim7 := { stood := { row := stonesHarpsRow, standIns := [], harness := (true, "15fa95b6276b303e19b0ad8c665ab26736583d2a9084788c8d1b076f58f8eac6"), looks := true }, kinds := [], alts := [], laidByText := true, laidKinds := [.data, .data, .data, .data, .sentinel, .sentinel, .pinned], laidTests := true, laidLooks := .later }
def StonesHarpsCardSaid : Prop := Claim7.holds Tryz.pinned (.plain (OpenSpec.ofChange stonesHarpsSpec)) stonesHarpsCard

/-- THE TIED CARD OF 'millrindlaw01.StonesNormal'. -/
def stonesNormalCard : Claim7 := { stood := { row := stonesNormalRow, standIns := [], harness := (true, "15fa95b6276b303e19b0ad8c665ab26736583d2a9084788c8d1b076f58f8eac6"), looks := true }, kinds := [], alts := [], laidByText := true, laidKinds := [.data, .data, .data, .data, .sentinel, .sentinel, .pinned], laidTests := true, laidLooks := .later }
def StonesNormalCardSaid : Prop := Claim7.holds Tryz.pinned (.plain (OpenSpec.ofChange stonesNormalSpec)) stonesNormalCard

/-- THE TIED CARD OF 'millrindlaw01.StonesTexts'. -/
def stonesTextsCard : Claim7 := { stood := { row := stonesTextsRow, standIns := [], harness := (true, "15fa95b6276b303e19b0ad8c665ab26736583d2a9084788c8d1b076f58f8eac6"), looks := true }, kinds := [], alts := [], laidByText := true, laidKinds := [.data, .data, .data, .data, .sentinel, .sentinel, .pinned], laidTests := true, laidLooks := .later }
def StonesTextsCardSaid : Prop := Claim7.holds Tryz.pinned (.plain (OpenSpec.ofChange stonesTextsSpec)) stonesTextsCard

/-- THE TIED CARD OF 'millrindlaw01.StonesPatterns'. -/
def stonesPatternsCard : Claim7 := { stood := { row := stonesPatternsRow, standIns := [], harness := (true, "15fa95b6276b303e19b0ad8c665ab26736583d2a9084788c8d1b076f58f8eac6"), looks := true }, kinds := [], alts := [], laidByText := true, laidKinds := [.data, .data, .data, .data, .sentinel, .sentinel, .pinned], laidTests := true, laidLooks := .later }
def StonesPatternsCardSaid : Prop := Claim7.holds Tryz.pinned (.plain (OpenSpec.ofChange stonesPatternsSpec)) stonesPatternsCard

/-- THE TIED CARD OF 'millrindlaw01.StonesRegions'. -/
def stonesRegionsCard : Claim7 := { stood := { row := stonesRegionsRow, standIns := [], harness := (true, "15fa95b6276b303e19b0ad8c665ab26736583d2a9084788c8d1b076f58f8eac6"), looks := true }, kinds := [], alts := [], laidByText := true, laidKinds := [.data, .data, .data, .data, .sentinel, .sentinel, .pinned], laidTests := true, laidLooks := .later }
def StonesRegionsCardSaid : Prop := Claim7.holds Tryz.pinned (.plain (OpenSpec.ofChange stonesRegionsSpec)) stonesRegionsCard

/-- THE TIED CARD OF 'millrindlaw01.StonesPlaces'. -/
def stonesPlacesCard : Claim7 := { stood := { row := stonesPlacesRow, standIns := [], harness := (true, "15fa95b6276b303e19b0ad8c665ab26736583d2a9084788c8d1b076f58f8eac6"), looks := true }, kinds := [], alts := [], laidByText := true, laidKinds := [.data, .data, .data, .data, .sentinel, .sentinel, .pinned], laidTests := true, laidLooks := .later }
def StonesPlacesCardSaid : Prop := Claim7.holds Tryz.pinned (.plain (OpenSpec.ofChange stonesPlacesSpec)) stonesPlacesCard

/-- THE TIED CARD OF 'millrindlaw01.StonesApart'. -/
def stonesApartCard : Claim7 := { stood := { row := stonesApartRow, standIns := [], harness := (true, "15fa95b6276b303e19b0ad8c665ab26736583d2a9084788c8d1b076f58f8eac6"), looks := true }, kinds := [], alts := [], laidByText := true, laidKinds := [.data, .data, .data, .data, .sentinel, .sentinel, .pinned], laidTests := true, laidLooks := .later }
def StonesApartCardSaid : Prop := Claim7.holds Tryz.pinned (.plain (OpenSpec.ofChange stonesApartSpec)) stonesApartCard

/-- THE SECOND FORM's CARD OF 'millrindlaw01.StonesDresses'. -/
def stonesDressesUptoCard : Claim7 := { stood := { row := stonesDressesUptoRow, standIns := [], harness := (true, "15fa95b6276b303e19b0ad8c665ab26736583d2a9084788c8d1b076f58f8eac6"), looks := true }, kinds := [], alts := [], laidByText := true, laidKinds := [.data, .data, .data, .data, .sentinel, .sentinel, .pinned], laidTests := true, laidLooks := .later }
def StonesDressesUptoCardSaid : Prop := Claim7.holds Tryz.pinned (.plain (OpenSpec.upto stonesDressesSpec)) stonesDressesUptoCard

/-- THE SECOND FORM's CARD OF 'millrindlaw01.StonesSum'. -/
def stonesSumUptoCard : Claim7 := { stood := { row := stonesSumUptoRow, standIns := [], harness := (true, "15fa95b6276b303e19b0ad8c665ab26736583d2a9084788c8d1b076f58f8eac6"), looks := true }, kinds := [], alts := [], laidByText := true, laidKinds := [.data, .data, .data, .data, .sentinel, .sentinel, .pinned], laidTests := true, laidLooks := .later }
def StonesSumUptoCardSaid : Prop := Claim7.holds Tryz.pinned (.plain (OpenSpec.upto stonesSumSpec)) stonesSumUptoCard

/-- THE SECOND FORM's CARD OF 'millrindlaw01.StonesAreas'. -/
def stonesAreasUptoCard : Claim7 := { stood := { row := stonesAreasUptoRow, standIns := [], harness := (true, "15fa95b6276b303e19b0ad8c665ab26736583d2a9084788c8d1b076f58f8eac6"), looks := true }, kinds := [], alts := [], laidByText := true, laidKinds := [.data, .data, .data, .data, .sentinel, .sentinel, .pinned], laidTests := true, laidLooks := .later }
def StonesAreasUptoCardSaid : Prop := Claim7.holds Tryz.pinned (.plain (OpenSpec.upto stonesAreasSpec)) stonesAreasUptoCard

/-- THE SECOND FORM's CARD OF 'millrindlaw01.StonesBeside'. -/
def stonesBesideUptoCard : Claim7 := { stood := { row := stonesBesideUptoRow, standIns := [], harness := (true, "15fa95b6276b303e19b0ad8c665ab26736583d2a9084788c8d1b076f58f8eac6"), looks := true }, kinds := [], alts := [], laidByText := true, laidKinds := [.data, .data, .data, .data, .sentinel, .sentinel, .pinned], laidTests := true, laidLooks := .later }
def StonesBesideUptoCardSaid : Prop := Claim7.holds Tryz.pinned (.plain (OpenSpec.upto stonesBesideSpec)) stonesBesideUptoCard

/-- THE SECOND FORM's CARD OF 'millrindlaw01.StonesGroup'. -/
def stonesGroupUptoCard : Claim7 := { stood := { row := stonesGroupUptoRow, standIns := [], harness := (true, "15fa95b6276b303e19b0ad8c665ab26736583d2a9084788c8d1b076f58f8eac6"), looks := true }, kinds := [], alts := [], laidByText := true, laidKinds := [.data, .data, .data, .data, .sentinel, .sentinel, .pinned], laidTests := true, laidLooks := .later }
def StonesGroupUptoCardSaid : Prop := Claim7.holds Tryz.pinned (.plain (OpenSpec.upto stonesGroupSpec)) stonesGroupUptoCard

/-- THE SECOND FORM's CARD OF 'millrindlaw01.StonesHarps'. -/
def stonesHarpsUptoCard : Claim7 := { stood := { row := stonesHarpsUptoRow, standIns := [], harness := (true, "15fa95b6276b303e19b0ad8c665ab26736583d2a9084788c8d1b076f58f8eac6"), looks := true }, kinds := [], alts := [], laidByText := true, laidKinds := [.data, .data, .data, .data, .sentinel, .sentinel, .pinned], laidTests := true, laidLooks := .later }
def StonesHarpsUptoCardSaid : Prop := Claim7.holds Tryz.pinned (.plain (OpenSpec.upto stonesHarpsSpec)) stonesHarpsUptoCard

/-- THE SECOND FORM's CARD OF 'millrindlaw01.StonesNormal'. -/
def stonesNormalUptoCard : Claim7 := { stood := { row := stonesNormalUptoRow, standIns := [], harness := (true, "15fa95b6276b303e19b0ad8c665ab26736583d2a9084788c8d1b076f58f8eac6"), looks := true }, kinds := [], alts := [], laidByText := true, laidKinds := [.data, .data, .data, .data, .sentinel, .sentinel, .pinned], laidTests := true, laidLooks := .later }
def StonesNormalUptoCardSaid : Prop := Claim7.holds Tryz.pinned (.plain (OpenSpec.upto stonesNormalSpec)) stonesNormalUptoCard

/-- THE SECOND FORM's CARD OF 'millrindlaw01.StonesTexts'. -/
def stonesTextsUptoCard : Claim7 := { stood := { row := stonesTextsUptoRow, standIns := [], harness := (true, "15fa95b6276b303e19b0ad8c665ab26736583d2a9084788c8d1b076f58f8eac6"), looks := true }, kinds := [], alts := [], laidByText := true, laidKinds := [.data, .data, .data, .data, .sentinel, .sentinel, .pinned], laidTests := true, laidLooks := .later }
def StonesTextsUptoCardSaid : Prop := Claim7.holds Tryz.pinned (.plain (OpenSpec.upto stonesTextsSpec)) stonesTextsUptoCard

/-- THE SECOND FORM's CARD OF 'millrindlaw01.StonesPatterns'. -/
def stonesPatternsUptoCard : Claim7 := { stood := { row := stonesPatternsUptoRow, standIns := [], harness := (true, "15fa95b6276b303e19b0ad8c665ab26736583d2a9084788c8d1b076f58f8eac6"), looks := true }, kinds := [], alts := [], laidByText := true, laidKinds := [.data, .data, .data, .data, .sentinel, .sentinel, .pinned], laidTests := true, laidLooks := .later }
def StonesPatternsUptoCardSaid : Prop := Claim7.holds Tryz.pinned (.plain (OpenSpec.upto stonesPatternsSpec)) stonesPatternsUptoCard

/-- THE SECOND FORM's CARD OF 'millrindlaw01.StonesRegions'. -/
def stonesRegionsUptoCard : Claim7 := { stood := { row := stonesRegionsUptoRow, standIns := [], harness := (true, "15fa95b6276b303e19b0ad8c665ab26736583d2a9084788c8d1b076f58f8eac6"), looks := true }, kinds := [], alts := [], laidByText := true, laidKinds := [.data, .data, .data, .data, .sentinel, .sentinel, .pinned], laidTests := true, laidLooks := .later }
def StonesRegionsUptoCardSaid : Prop := Claim7.holds Tryz.pinned (.plain (OpenSpec.upto stonesRegionsSpec)) stonesRegionsUptoCard

/-- THE SECOND FORM's CARD OF 'millrindlaw01.StonesPlaces'. -/
def stonesPlacesUptoCard : Claim7 := { stood := { row := stonesPlacesUptoRow, standIns := [], harness := (true, "15fa95b6276b303e19b0ad8c665ab26736583d2a9084788c8d1b076f58f8eac6"), looks := true }, kinds := [], alts := [], laidByText := true, laidKinds := [.data, .data, .data, .data, .sentinel, .sentinel, .pinned], laidTests := true, laidLooks := .later }
def StonesPlacesUptoCardSaid : Prop := Claim7.holds Tryz.pinned (.plain (OpenSpec.upto stonesPlacesSpec)) stonesPlacesUptoCard

/-- THE SECOND FORM's CARD OF 'millrindlaw01.StonesApart'. -/
def stonesApartUptoCard : Claim7 := { stood := { row := stonesApartUptoRow, standIns := [], harness := (true, "15fa95b6276b303e19b0ad8c665ab26736583d2a9084788c8d1b076f58f8eac6"), looks := true }, kinds := [], alts := [], laidByText := true, laidKinds := [.data, .data, .data, .data, .sentinel, .sentinel, .pinned], laidTests := true, laidLooks := .later }
def StonesApartUptoCardSaid : Prop := Claim7.holds Tryz.pinned (.plain (OpenSpec.upto stonesApartSpec)) stonesApartUptoCard
end Rows
end Go.Proofs.YtmpkglokhchpiaaGreatDoor
