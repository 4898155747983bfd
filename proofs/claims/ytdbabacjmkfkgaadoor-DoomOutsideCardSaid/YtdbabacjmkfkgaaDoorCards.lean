/-
  DERIVED. GIVEN WITH THE SEED: THE CARDS: each row of YtdbabacjmkfkgaaDoorRows.lean that lists a variable, with what it lists TIED to the program's text (the seventh form; the later family's looks); each row that meets fmt, with fmt's text TOLD by the authors' own Lean function (tested against real Go, not proved from fmt's source: count such statements apart). THE CARD IS WHAT COUNTS. Prove the row's statement (the work); the ties are given (YtdbabacjmkfkgaaDoorTie.lean); close each card by the builder's one call (the guide's Derived/Test/ToyasCard.lean, 'card_holds'). Laid BY PROGRAM, IN A SANDBOX (cutbox-door.mjs). By AI agents, Wed Nov 11 2026. No macro, syntax, notation, axiom, sorry.
-/
import Derived.Test.YtdbabacjmkfkgaaDoorRows
import GoSem.ClaimSeven
namespace Go.Proofs.YtdbabacjmkfkgaaDoor
namespace Rows

/-- THE TIED CARD OF 'redresslaw11.DoomWaits'. -/
def doomWaitsCard : Claim7 := { stood := { row := doomWaitsRow, standIns := [], harness := (true, "504d8bde05da1d8e6b26c4708af62468145c41e864c432ab19d11bdd6c6c5144"), looks := false }, kinds := [], alts := [], laidByText := true, laidKinds := [.data, .widerDeep, .pinned], laidTests := true, laidLooks := .later }
def DoomWaitsCardSaid : Prop := Claim7.holds Tryd.pinned (.plain (OpenSpec.ofChange doomWaitsSpec)) doomWaitsCard

/-- THE TIED CARD OF 'redresslaw11.DoomOutside'. -/
def doomOutsideCard : Claim7 := { stood := { row := doomOutsideRow, standIns := [], harness := (true, "504d8bde05da1d8e6b26c4708af62468145c41e864c432ab19d11bdd6c6c5144"), looks := false }, kinds := [], alts := [], laidByText := true, laidKinds := [.data, .widerDeep, .pinned], laidTests := true, laidLooks := .later }
def DoomOutsideCardSaid : Prop := Claim7.holds Tryd.pinned (.plain (OpenSpec.ofChange doomOutsideSpec)) doomOutsideCard

/-- THE TIED CARD OF 'redresslaw11.DoomPar'. -/
def doomParCard : Claim7 := { stood := { row := doomParRow, standIns := [], harness := (true, "504d8bde05da1d8e6b26c4708af62468145c41e864c432ab19d11bdd6c6c5144"), looks := false }, kinds := [], alts := [], laidByText := true, laidKinds := [.data, .widerDeep, .pinned], laidTests := true, laidLooks := .later }
def DoomParCardSaid : Prop := Claim7.holds Tryd.pinned (.plain (OpenSpec.ofChange doomParSpec)) doomParCard

/-- THE SECOND FORM's CARD OF 'redresslaw11.DoomWaits'. -/
def doomWaitsUptoCard : Claim7 := { stood := { row := doomWaitsUptoRow, standIns := [], harness := (true, "504d8bde05da1d8e6b26c4708af62468145c41e864c432ab19d11bdd6c6c5144"), looks := false }, kinds := [], alts := [], laidByText := true, laidKinds := [.data, .widerDeep, .pinned], laidTests := true, laidLooks := .later }
def DoomWaitsUptoCardSaid : Prop := Claim7.holds Tryd.pinned (.plain (OpenSpec.upto doomWaitsSpec)) doomWaitsUptoCard

/-- THE SECOND FORM's CARD OF 'redresslaw11.DoomOutside'. -/
def doomOutsideUptoCard : Claim7 := { stood := { row := doomOutsideUptoRow, standIns := [], harness := (true, "504d8bde05da1d8e6b26c4708af62468145c41e864c432ab19d11bdd6c6c5144"), looks := false }, kinds := [], alts := [], laidByText := true, laidKinds := [.data, .widerDeep, .pinned], laidTests := true, laidLooks := .later }
def DoomOutsideUptoCardSaid : Prop := Claim7.holds Tryd.pinned (.plain (OpenSpec.upto doomOutsideSpec)) doomOutsideUptoCard

/-- THE SECOND FORM's CARD OF 'redresslaw11.DoomPar'. -/
def doomParUptoCard : Claim7 := { stood := { row := doomParUptoRow, standIns := [], harness := (true, "504d8bde05da1d8e6b26c4708af62468145c41e864c432ab19d11bdd6c6c5144"), looks := false }, kinds := [], alts := [], laidByText := true, laidKinds := [.data, .widerDeep, .pinned], laidTests := true, laidLooks := .later }
def DoomParUptoCardSaid : Prop := Claim7.holds Tryd.pinned (.plain (OpenSpec.upto doomParSpec)) doomParUptoCard
end Rows
end Go.Proofs.YtdbabacjmkfkgaaDoor
