/-
  DERIVED. GIVEN WITH THE SEED: THE CARDS: each row of YtdbabacjmkfkgaaGreatDoorRows.lean that lists a variable, with what it lists TIED to the program's text (the seventh form; the later family's looks); each row that meets fmt, with fmt's text TOLD by the authors' own Lean function (tested against real Go, not proved from fmt's source: count such statements apart). THE CARD IS WHAT COUNTS. Prove the row's statement (the work); the ties are given (YtdbabacjmkfkgaaGreatDoorTie.lean); close each card by the builder's one call (the guide's Derived/Test/ToyasCard.lean, 'card_holds'). Laid BY PROGRAM, IN A SANDBOX (cutbox-door.mjs). By AI agents, Wed Nov 11 2026. No macro, syntax, notation, axiom, sorry.
-/
import Derived.Test.YtdbabacjmkfkgaaGreatDoorRows
import GoSem.ClaimSeven
namespace Go.Proofs.YtdbabacjmkfkgaaGreatDoor
namespace Rows

/-- THE TIED CARD OF 'redresslaw11.DoomActive'. -/
def doomActiveCard : Claim7 := { stood := { row := doomActiveRow, standIns := [], harness := (true, "408dd06de7020b13dc89bc62f33e45728bdffe170f68fc971e36fb8e03a89b18"), looks := false }, kinds := [], alts := [], laidByText := true, laidKinds := [.data, .widerDeep, .pinned], laidTests := true, laidLooks := .later }
def DoomActiveCardSaid : Prop := Claim7.holds Tryz.pinned (.plain (OpenSpec.ofChange doomActiveSpec)) doomActiveCard

/-- THE TIED CARD OF 'redresslaw11.DoomFree'. -/
def doomFreeCard : Claim7 := { stood := { row := doomFreeRow, standIns := [], harness := (true, "408dd06de7020b13dc89bc62f33e45728bdffe170f68fc971e36fb8e03a89b18"), looks := false }, kinds := [], alts := [], laidByText := true, laidKinds := [.data, .widerDeep, .pinned], laidTests := true, laidLooks := .later }
def DoomFreeCardSaid : Prop := Claim7.holds Tryz.pinned (.plain (OpenSpec.ofChange doomFreeSpec)) doomFreeCard

/-- THE TIED CARD OF 'redresslaw11.DoomMeans'. -/
def doomMeansCard : Claim7 := { stood := { row := doomMeansRow, standIns := [], harness := (true, "408dd06de7020b13dc89bc62f33e45728bdffe170f68fc971e36fb8e03a89b18"), looks := false }, kinds := [], alts := [], laidByText := true, laidKinds := [.data, .widerDeep, .pinned], laidTests := true, laidLooks := .later }
def DoomMeansCardSaid : Prop := Claim7.holds Tryz.pinned (.plain (OpenSpec.ofChange doomMeansSpec)) doomMeansCard

/-- THE SECOND FORM's CARD OF 'redresslaw11.DoomActive'. -/
def doomActiveUptoCard : Claim7 := { stood := { row := doomActiveUptoRow, standIns := [], harness := (true, "408dd06de7020b13dc89bc62f33e45728bdffe170f68fc971e36fb8e03a89b18"), looks := false }, kinds := [], alts := [], laidByText := true, laidKinds := [.data, .widerDeep, .pinned], laidTests := true, laidLooks := .later }
def DoomActiveUptoCardSaid : Prop := Claim7.holds Tryz.pinned (.plain (OpenSpec.upto doomActiveSpec)) doomActiveUptoCard

/-- THE SECOND FORM's CARD OF 'redresslaw11.DoomFree'. -/
def doomFreeUptoCard : Claim7 := { stood := { row := doomFreeUptoRow, standIns := [], harness := (true, "408dd06de7020b13dc89bc62f33e45728bdffe170f68fc971e36fb8e03a89b18"), looks := false }, kinds := [], alts := [], laidByText := true, laidKinds := [.data, .widerDeep, .pinned], laidTests := true, laidLooks := .later }
def DoomFreeUptoCardSaid : Prop := Claim7.holds Tryz.pinned (.plain (OpenSpec.upto doomFreeSpec)) doomFreeUptoCard

/-- THE SECOND FORM's CARD OF 'redresslaw11.DoomMeans'. -/
def doomMeansUptoCard : Claim7 := { stood := { row := doomMeansUptoRow, standIns := [], harness := (true, "408dd06de7020b13dc89bc62f33e45728bdffe170f68fc971e36fb8e03a89b18"), looks := false }, kinds := [], alts := [], laidByText := true, laidKinds := [.data, .widerDeep, .pinned], laidTests := true, laidLooks := .later }
def DoomMeansUptoCardSaid : Prop := Claim7.holds Tryz.pinned (.plain (OpenSpec.upto doomMeansSpec)) doomMeansUptoCard
end Rows
end Go.Proofs.YtdbabacjmkfkgaaGreatDoor
