/-
  DERIVED. GIVEN WITH THE SEED: THE CARDS: each row of YtjogkjgpbeenfaaGreatDoorRows.lean that lists a variable, with what it lists TIED to the program's text (the seventh form; the later family's looks); each row that meets fmt, with fmt's text TOLD by the authors' own Lean function (tested against real Go, not proved from fmt's source: count such statements apart). THE CARD IS WHAT COUNTS. Prove the row's statement (the work); the ties are given (YtjogkjgpbeenfaaGreatDoorTie.lean); close each card by the builder's one call (the guide's Derived/Test/ToyasCard.lean, 'card_holds'). Laid BY PROGRAM, IN A SANDBOX (cutbox-door.mjs). By AI agents, Wed Nov 11 2026. No macro, syntax, notation, axiom, sorry.
-/
import Derived.Test.YtjogkjgpbeenfaaGreatDoorRows
import GoSem.ClaimSeven
namespace Go.Proofs.YtjogkjgpbeenfaaGreatDoor
namespace Rows

/-- THE TIED CARD OF 'redresslaw13.StepNext'. -/
def stepNextCard : Claim7 := { stood := { row := stepNextRow, standIns := [], harness := (true, "9fc29bb5ea71d3327f2d134e84a8b25435bdb034a888347fcfd31b3b9e8b9f10"), looks := false }, kinds := [], alts := [], laidByText := true, laidKinds := [.data, .widerDeep, .pinned], laidTests := true, laidLooks := .later }
def StepNextCardSaid : Prop := Claim7.holds Tryz.pinned (.plain (OpenSpec.ofChange stepNextSpec)) stepNextCard

/-- THE TIED CARD OF 'redresslaw13.StepMeans'. -/
def stepMeansCard : Claim7 := { stood := { row := stepMeansRow, standIns := [], harness := (true, "9fc29bb5ea71d3327f2d134e84a8b25435bdb034a888347fcfd31b3b9e8b9f10"), looks := false }, kinds := [], alts := [], laidByText := true, laidKinds := [.data, .widerDeep, .pinned], laidTests := true, laidLooks := .later }
def StepMeansCardSaid : Prop := Claim7.holds Tryz.pinned (.plain (OpenSpec.ofChange stepMeansSpec)) stepMeansCard

/-- THE SECOND FORM's CARD OF 'redresslaw13.StepNext'. -/
def stepNextUptoCard : Claim7 := { stood := { row := stepNextUptoRow, standIns := [], harness := (true, "9fc29bb5ea71d3327f2d134e84a8b25435bdb034a888347fcfd31b3b9e8b9f10"), looks := false }, kinds := [], alts := [], laidByText := true, laidKinds := [.data, .widerDeep, .pinned], laidTests := true, laidLooks := .later }
def StepNextUptoCardSaid : Prop := Claim7.holds Tryz.pinned (.plain (OpenSpec.upto stepNextSpec)) stepNextUptoCard

/-- THE SECOND FORM's CARD OF 'redresslaw13.StepMeans'. -/
def stepMeansUptoCard : Claim7 := { stood := { row := stepMeansUptoRow, standIns := [], harness := (true, "9fc29bb5ea71d3327f2d134e84a8b25435bdb034a888347fcfd31b3b9e8b9f10"), looks := false }, kinds := [], alts := [], laidByText := true, laidKinds := [.data, .widerDeep, .pinned], laidTests := true, laidLooks := .later }
def StepMeansUptoCardSaid : Prop := Claim7.holds Tryz.pinned (.plain (OpenSpec.upto stepMeansSpec)) stepMeansUptoCard
end Rows
end Go.Proofs.YtjogkjgpbeenfaaGreatDoor
