/-
  DERIVED. GIVEN WITH THE SEED: THE CARDS: each row of YtlnpacehjfoffaaGreatDoorRows.lean that lists a variable, with what it lists TIED to the program's text (the seventh form; the later family's looks); each row that meets fmt, with fmt's text TOLD by the authors' own Lean function (tested against real Go, not proved from fmt's source: count such statements apart). THE CARD IS WHAT COUNTS. Prove the row's statement (the work); the ties are given (YtlnpacehjfoffaaGreatDoorTie.lean); close each card by the builder's one call (the guide's Derived/Test/ToyasCard.lean, 'card_holds'). Laid BY PROGRAM, IN A SANDBOX (cutbox-door.mjs). By AI agents, Wed Nov 11 2026. No macro, syntax, notation, axiom, sorry.
-/
import Derived.Test.YtlnpacehjfoffaaGreatDoorRows
import GoSem.ClaimSeven
namespace Go.Proofs.YtlnpacehjfoffaaGreatDoor
namespace Rows

/-- THE TIED CARD OF 'redresslaw10.SettleMeans'. -/
def settleMeansCard : Claim7 := { stood := { row := settleMeansRow, standIns := [], harness := (true, "1016a5f9981edf448aaefbed38603b5accfe82b381853c036563d8c0594d562a"), looks := false }, kinds := [], alts := [], laidByText := true, laidKinds := [.data, .widerDeep, .pinned], laidTests := true, laidLooks := .later }
def SettleMeansCardSaid : Prop := Claim7.holds Tryz.pinned (.plain (OpenSpec.ofChange settleMeansSpec)) settleMeansCard

/-- THE SECOND FORM's CARD OF 'redresslaw10.SettleMeans'. -/
def settleMeansUptoCard : Claim7 := { stood := { row := settleMeansUptoRow, standIns := [], harness := (true, "1016a5f9981edf448aaefbed38603b5accfe82b381853c036563d8c0594d562a"), looks := false }, kinds := [], alts := [], laidByText := true, laidKinds := [.data, .widerDeep, .pinned], laidTests := true, laidLooks := .later }
def SettleMeansUptoCardSaid : Prop := Claim7.holds Tryz.pinned (.plain (OpenSpec.upto settleMeansSpec)) settleMeansUptoCard
end Rows
end Go.Proofs.YtlnpacehjfoffaaGreatDoor
