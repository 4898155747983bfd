/-
  DERIVED. GIVEN WITH THE SEED: THE CARDS: each row of YtgogodeknkoalaaGreatDoorRows.lean that lists a variable, with what it lists TIED to the program's text (the seventh form; the later family's looks); each row that meets fmt, with fmt's text TOLD by the authors' own Lean function (tested against real Go, not proved from fmt's source: count such statements apart). THE CARD IS WHAT COUNTS. Prove the row's statement (the work); the ties are given (YtgogodeknkoalaaGreatDoorTie.lean); close each card by the builder's one call (the guide's Derived/Test/ToyasCard.lean, 'card_holds'). Laid BY PROGRAM, IN A SANDBOX (cutbox-door.mjs). By AI agents, Wed Nov 11 2026. No macro, syntax, notation, axiom, sorry.
-/
import Derived.Test.YtgogodeknkoalaaGreatDoorRows
import GoSem.ClaimSeven
namespace Go.Proofs.YtgogodeknkoalaaGreatDoor
namespace Rows

/-- THE TIED CARD OF 'redresslaw12.MoveEnabled'. -/
def moveEnabledCard : Claim7 := { stood := { row := moveEnabledRow, standIns := [], harness := (true, "a9fe90cd750e5c27d4ec7cd9876feb355a9ff02238b8b92829c80f31afd03d5a"), looks := false }, kinds := [], alts := [], laidByText := true, laidKinds := [.data, .data, .data, .data, .widerDeep, .pinned], laidTests := true, laidLooks := .later }
def MoveEnabledCardSaid : Prop := Claim7.holds Tryz.pinned (.plain (OpenSpec.ofChange moveEnabledSpec)) moveEnabledCard

/-- THE TIED CARD OF 'redresslaw12.MovePicks'. -/
def movePicksCard : Claim7 := { stood := { row := movePicksRow, standIns := [], harness := (true, "a9fe90cd750e5c27d4ec7cd9876feb355a9ff02238b8b92829c80f31afd03d5a"), looks := false }, kinds := [], alts := [], laidByText := true, laidKinds := [.data, .data, .data, .data, .widerDeep, .pinned], laidTests := true, laidLooks := .later }
def MovePicksCardSaid : Prop := Claim7.holds Tryz.pinned (.plain (OpenSpec.ofChange movePicksSpec)) movePicksCard

/-- THE TIED CARD OF 'redresslaw12.MoveTexts'. -/
def moveTextsCard : Claim7 := { stood := { row := moveTextsRow, standIns := [], harness := (true, "a9fe90cd750e5c27d4ec7cd9876feb355a9ff02238b8b92829c80f31afd03d5a"), looks := false }, kinds := [], alts := [], laidByText := true, laidKinds := [.data, .data, .data, .data, .widerDeep, .pinned], laidTests := true, laidLooks := .later }
def MoveTextsCardSaid : Prop := Claim7.holds Tryz.pinned (.plain (OpenSpec.ofChange moveTextsSpec)) moveTextsCard

/-- THE TIED CARD OF 'redresslaw12.MoveRound'. -/
def moveRoundCard : Claim7 := { stood := { row := moveRoundRow, standIns := [], harness := (true, "a9fe90cd750e5c27d4ec7cd9876feb355a9ff02238b8b92829c80f31afd03d5a"), looks := false }, kinds := [], alts := [], laidByText := true, laidKinds := [.data, .data, .data, .data, .widerDeep, .pinned], laidTests := true, laidLooks := .later }
def MoveRoundCardSaid : Prop := Claim7.holds Tryz.pinned (.plain (OpenSpec.ofChange moveRoundSpec)) moveRoundCard

/-- THE TIED CARD OF 'redresslaw12.MoveMany'. -/
def moveManyCard : Claim7 := { stood := { row := moveManyRow, standIns := [], harness := (true, "a9fe90cd750e5c27d4ec7cd9876feb355a9ff02238b8b92829c80f31afd03d5a"), looks := false }, kinds := [], alts := [], laidByText := true, laidKinds := [.data, .data, .data, .data, .widerDeep, .pinned], laidTests := true, laidLooks := .later }
def MoveManyCardSaid : Prop := Claim7.holds Tryz.pinned (.plain (OpenSpec.ofChange moveManySpec)) moveManyCard

/-- THE SECOND FORM's CARD OF 'redresslaw12.MoveEnabled'. -/
def moveEnabledUptoCard : Claim7 := { stood := { row := moveEnabledUptoRow, standIns := [], harness := (true, "a9fe90cd750e5c27d4ec7cd9876feb355a9ff02238b8b92829c80f31afd03d5a"), looks := false }, kinds := [], alts := [], laidByText := true, laidKinds := [.data, .data, .data, .data, .widerDeep, .pinned], laidTests := true, laidLooks := .later }
def MoveEnabledUptoCardSaid : Prop := Claim7.holds Tryz.pinned (.plain (OpenSpec.upto moveEnabledSpec)) moveEnabledUptoCard

/-- THE SECOND FORM's CARD OF 'redresslaw12.MovePicks'. -/
def movePicksUptoCard : Claim7 := { stood := { row := movePicksUptoRow, standIns := [], harness := (true, "a9fe90cd750e5c27d4ec7cd9876feb355a9ff02238b8b92829c80f31afd03d5a"), looks := false }, kinds := [], alts := [], laidByText := true, laidKinds := [.data, .data, .data, .data, .widerDeep, .pinned], laidTests := true, laidLooks := .later }
def MovePicksUptoCardSaid : Prop := Claim7.holds Tryz.pinned (.plain (OpenSpec.upto movePicksSpec)) movePicksUptoCard

/-- THE SECOND FORM's CARD OF 'redresslaw12.MoveTexts'. -/
def moveTextsUptoCard : Claim7 := { stood := { row := moveTextsUptoRow, standIns := [], harness := (true, "a9fe90cd750e5c27d4ec7cd9876feb355a9ff02238b8b92829c80f31afd03d5a"), looks := false }, kinds := [], alts := [], laidByText := true, laidKinds := [.data, .data, .data, .data, .widerDeep, .pinned], laidTests := true, laidLooks := .later }
def MoveTextsUptoCardSaid : Prop := Claim7.holds Tryz.pinned (.plain (OpenSpec.upto moveTextsSpec)) moveTextsUptoCard

/-- THE SECOND FORM's CARD OF 'redresslaw12.MoveRound'. -/
def moveRoundUptoCard : Claim7 := { stood := { row := moveRoundUptoRow, standIns := [], harness := (true, "a9fe90cd750e5c27d4ec7cd9876feb355a9ff02238b8b92829c80f31afd03d5a"), looks := false }, kinds := [], alts := [], laidByText := true, laidKinds := [.data, .data, .data, .data, .widerDeep, .pinned], laidTests := true, laidLooks := .later }
def MoveRoundUptoCardSaid : Prop := Claim7.holds Tryz.pinned (.plain (OpenSpec.upto moveRoundSpec)) moveRoundUptoCard

/-- THE SECOND FORM's CARD OF 'redresslaw12.MoveMany'. -/
def moveManyUptoCard : Claim7 := { stood := { row := moveManyUptoRow, standIns := [], harness := (true, "a9fe90cd750e5c27d4ec7cd9876feb355a9ff02238b8b92829c80f31afd03d5a"), looks := false }, kinds := [], alts := [], laidByText := true, laidKinds := [.data, .data, .data, .data, .widerDeep, .pinned], laidTests := true, laidLooks := .later }
def MoveManyUptoCardSaid : Prop := Claim7.holds Tryz.pinned (.plain (OpenSpec.upto moveManySpec)) moveManyUptoCard
end Rows
end Go.Proofs.YtgogodeknkoalaaGreatDoor
