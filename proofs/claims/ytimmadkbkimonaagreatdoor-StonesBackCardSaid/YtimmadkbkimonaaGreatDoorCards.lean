/-
  DERIVED. GIVEN WITH THE SEED: THE CARDS: each row of YtimmadkbkimonaaGreatDoorRows.lean that lists a variable, with what it lists TIED to the program's text (the seventh form; the later family's looks); each row that meets fmt, with fmt's text TOLD by the authors' own Lean function (tested against real Go, not proved from fmt's source: count such statements apart). THE CARD IS WHAT COUNTS. Prove the row's statement (the work); the ties are given (YtimmadkbkimonaaGreatDoorTie.lean); close each card by the builder's one call (the guide's Derived/Test/ToyasCard.lean, 'card_holds'). Laid BY PROGRAM, IN A SANDBOX (cutbox-door.mjs). By AI agents, Wed Nov 11 2026. No macro, syntax, notation, axiom, sorry.
-/
import Derived.Test.YtimmadkbkimonaaGreatDoorRows
import GoSem.ClaimSeven
namespace Go.Proofs.YtimmadkbkimonaaGreatDoor
namespace Rows

/-- THE TIED CARD OF 'millrindlaw01.StonesDresses'. -/
def stonesDressesCard : Claim7 := { stood := { row := stonesDressesRow, standIns := [], harness := (true, "10c0e80cfc9dac971943bac08d73667739240dfba14aa9ebdfbbcfc113bf546f"), looks := true }, kinds := [], alts := [], laidByText := true, laidKinds := [.data, .data, .data, .data, .sentinel, .sentinel, .pinned], laidTests := true, laidLooks := .later }
def StonesDressesCardSaid : Prop := Claim7.holds Tryz.pinned (.plain (OpenSpec.ofChange stonesDressesSpec)) stonesDressesCard

/-- THE TIED CARD OF 'millrindlaw01.StonesTexts'. -/
def stonesTextsCard : Claim7 := { stood := { row := stonesTextsRow, standIns := [], harness := (true, "10c0e80cfc9dac971943bac08d73667739240dfba14aa9ebdfbbcfc113bf546f"), looks := true }, kinds := [], alts := [], laidByText := true, laidKinds := [.data, .data, .data, .data, .sentinel, .sentinel, .pinned], laidTests := true, laidLooks := .later }
def StonesTextsCardSaid : Prop := Claim7.holds Tryz.pinned (.plain (OpenSpec.ofChange stonesTextsSpec)) stonesTextsCard

/-- THE TIED CARD OF 'millrindlaw01.StonesRegions'. -/
def stonesRegionsCard : Claim7 := { stood := { row := stonesRegionsRow, standIns := [], harness := (true, "10c0e80cfc9dac971943bac08d73667739240dfba14aa9ebdfbbcfc113bf546f"), looks := true }, kinds := [], alts := [], laidByText := true, laidKinds := [.data, .data, .data, .data, .sentinel, .sentinel, .pinned], laidTests := true, laidLooks := .later }
def StonesRegionsCardSaid : Prop := Claim7.holds Tryz.pinned (.plain (OpenSpec.ofChange stonesRegionsSpec)) stonesRegionsCard

/-- THE TIED CARD OF 'millrindlaw01.StonesApart'. -/
def stonesApartCard : Claim7 := { stood := { row := stonesApartRow, standIns := [], harness := (true, "10c0e80cfc9dac971943bac08d73667739240dfba14aa9ebdfbbcfc113bf546f"), looks := true }, kinds := [], alts := [], laidByText := true, laidKinds := [.data, .data, .data, .data, .sentinel, .sentinel, .pinned], laidTests := true, laidLooks := .later }
def StonesApartCardSaid : Prop := Claim7.holds Tryz.pinned (.plain (OpenSpec.ofChange stonesApartSpec)) stonesApartCard

/-- THE TIED CARD OF 'millrindlaw01.StonesDrained'. -/
def stonesDrainedCard : Claim7 := { stood := { row := stonesDrainedRow, standIns := [], harness := (true, "10c0e80cfc9dac971943bac08d73667739240dfba14aa9ebdfbbcfc113bf546f"), looks := true }, kinds := [], alts := [], laidByText := true, laidKinds := [.data, .data, .data, .data, .sentinel, .sentinel, .pinned], laidTests := true, laidLooks := .later }
def StonesDrainedCardSaid : Prop := Claim7.holds Tryz.pinned (.plain (OpenSpec.ofChange stonesDrainedSpec)) stonesDrainedCard

/-- THE TIED CARD OF 'millrindlaw01.StonesTurns'. -/
def stonesTurnsCard : Claim7 := { stood := { row := stonesTurnsRow, standIns := [], harness := (true, "10c0e80cfc9dac971943bac08d73667739240dfba14aa9ebdfbbcfc113bf546f"), looks := true }, kinds := [], alts := [], laidByText := true, laidKinds := [.data, .data, .data, .data, .sentinel, .sentinel, .pinned], laidTests := true, laidLooks := .later }
def StonesTurnsCardSaid : Prop := Claim7.holds Tryz.pinned (.plain (OpenSpec.ofChange stonesTurnsSpec)) stonesTurnsCard

/-- THE TIED CARD OF 'millrindlaw01.StonesBack'. -/
def stonesBackCard : Claim7 := { stood := { row := stonesBackRow, standIns := [], harness := (true, "10c0e80cfc9dac971943bac08d73667739240dfba14aa9ebdfbbcfc113bf546f"), looks := true }, kinds := [], alts := [], laidByText := true, laidKinds := [.data, .data, .data, .data, .sentinel, .sentinel, .pinned], laidTests := true, laidLooks := .later }
def StonesBackCardSaid : Prop := Claim7.holds Tryz.pinned (.plain (OpenSpec.ofChange stonesBackSpec)) stonesBackCard

/-- THE TIED CARD OF 'millrindlaw01.StonesCells'. -/
def stonesCellsCard : Claim7 := { stood := { row := stonesCellsRow, standIns := [], harness := (true, "10c0e80cfc9dac971943bac08d73667739240dfba14aa9ebdfbbcfc113bf546f"), looks := true }, kinds := [], alts := [], laidByText := true, laidKinds := [.data, .data, .data, .data, .sentinel, .sentinel, .pinned], laidTests := true, laidLooks := .later }
def StonesCellsCardSaid : Prop := Claim7.holds Tryz.pinned (.plain (OpenSpec.ofChange stonesCellsSpec)) stonesCellsCard

/-- THE SECOND FORM's CARD OF 'millrindlaw01.StonesDresses'. -/
def stonesDressesUptoCard : Claim7 := { stood := { row := stonesDressesUptoRow, standIns := [], harness := (true, "10c0e80cfc9dac971943bac08d73667739240dfba14aa9ebdfbbcfc113bf546f"), looks := true }, kinds := [], alts := [], laidByText := true, laidKinds := [.data, .data, .data, .data, .sentinel, .sentinel, .pinned], laidTests := true, laidLooks := .later }
def StonesDressesUptoCardSaid : Prop := Claim7.holds Tryz.pinned (.plain (OpenSpec.upto stonesDressesSpec)) stonesDressesUptoCard

/-- THE SECOND FORM's CARD OF 'millrindlaw01.StonesTexts'. -/
def stonesTextsUptoCard : Claim7 := { stood := { row := stonesTextsUptoRow, standIns := [], harness := (true, "10c0e80cfc9dac971943bac08d73667739240dfba14aa9ebdfbbcfc113bf546f"), looks := true }, kinds := [], alts := [], laidByText := true, laidKinds := [.data, .data, .data, .data, .sentinel, .sentinel, .pinned], laidTests := true, laidLooks := .later }
def StonesTextsUptoCardSaid : Prop := Claim7.holds Tryz.pinned (.plain (OpenSpec.upto stonesTextsSpec)) stonesTextsUptoCard

/-- THE SECOND FORM's CARD OF 'millrindlaw01.StonesRegions'. -/
def stonesRegionsUptoCard : Claim7 := { stood := { row := stonesRegionsUptoRow, standIns := [], harness := (true, "10c0e80cfc9dac971943bac08d73667739240dfba14aa9ebdfbbcfc113bf546f"), looks := true }, kinds := [], alts := [], laidByText := true, laidKinds := [.data, .data, .data, .data, .sentinel, .sentinel, .pinned], laidTests := true, laidLooks := .later }
def StonesRegionsUptoCardSaid : Prop := Claim7.holds Tryz.pinned (.plain (OpenSpec.upto stonesRegionsSpec)) stonesRegionsUptoCard

/-- THE SECOND FORM's CARD OF 'millrindlaw01.StonesApart'. -/
def stonesApartUptoCard : Claim7 := { stood := { row := stonesApartUptoRow, standIns := [], harness := (true, "10c0e80cfc9dac971943bac08d73667739240dfba14aa9ebdfbbcfc113bf546f"), looks := true }, kinds := [], alts := [], laidByText := true, laidKinds := [.data, .data, .data, .data, .sentinel, .sentinel, .pinned], laidTests := true, laidLooks := .later }
def StonesApartUptoCardSaid : Prop := Claim7.holds Tryz.pinned (.plain (OpenSpec.upto stonesApartSpec)) stonesApartUptoCard

/-- THE SECOND FORM's CARD OF 'millrindlaw01.StonesDrained'. -/
def stonesDrainedUptoCard : Claim7 := { stood := { row := stonesDrainedUptoRow, standIns := [], harness := (true, "10c0e80cfc9dac971943bac08d73667739240dfba14aa9ebdfbbcfc113bf546f"), looks := true }, kinds := [], alts := [], laidByText := true, laidKinds := [.data, .data, .data, .data, .sentinel, .sentinel, .pinned], laidTests := true, laidLooks := .later }
def StonesDrainedUptoCardSaid : Prop := Claim7.holds Tryz.pinned (.plain (OpenSpec.upto stonesDrainedSpec)) stonesDrainedUptoCard

/-- THE SECOND FORM's CARD OF 'millrindlaw01.StonesTurns'. -/
def stonesTurnsUptoCard : Claim7 := { stood := { row := stonesTurnsUptoRow, standIns := [], harness := (true, "10c0e80cfc9dac971943bac08d73667739240dfba14aa9ebdfbbcfc113bf546f"), looks := true }, kinds := [], alts := [], laidByText := true, laidKinds := [.data, .data, .data, .data, .sentinel, .sentinel, .pinned], laidTests := true, laidLooks := .later }
def StonesTurnsUptoCardSaid : Prop := Claim7.holds Tryz.pinned (.plain (OpenSpec.upto stonesTurnsSpec)) stonesTurnsUptoCard

/-- THE SECOND FORM's CARD OF 'millrindlaw01.StonesBack'. -/
def stonesBackUptoCard : Claim7 := { stood := { row := stonesBackUptoRow, standIns := [], harness := (true, "10c0e80cfc9dac971943bac08d73667739240dfba14aa9ebdfbbcfc113bf546f"), looks := true }, kinds := [], alts := [], laidByText := true, laidKinds := [.data, .data, .data, .data, .sentinel, .sentinel, .pinned], laidTests := true, laidLooks := .later }
def StonesBackUptoCardSaid : Prop := Claim7.holds Tryz.pinned (.plain (OpenSpec.upto stonesBackSpec)) stonesBackUptoCard

/-- THE SECOND FORM's CARD OF 'millrindlaw01.StonesCells'. -/
def stonesCellsUptoCard : Claim7 := { stood := { row := stonesCellsUptoRow, standIns := [], harness := (true, "10c0e80cfc9dac971943bac08d73667739240dfba14aa9ebdfbbcfc113bf546f"), looks := true }, kinds := [], alts := [], laidByText := true, laidKinds := [.data, .data, .data, .data, .sentinel, .sentinel, .pinned], laidTests := true, laidLooks := .later }
def StonesCellsUptoCardSaid : Prop := Claim7.holds Tryz.pinned (.plain (OpenSpec.upto stonesCellsSpec)) stonesCellsUptoCard
end Rows
end Go.Proofs.YtimmadkbkimonaaGreatDoor
