/-
  DERIVED. GIVEN WITH THE SEED: THE CARDS: each row of YthhefjmdfdckjaaGreatDoorRows.lean that lists a variable, with what it lists TIED to the program's text (the seventh form; the later family's looks); each row that meets fmt, with fmt's text TOLD by the authors' own Lean function (tested against real Go, not proved from fmt's source: count such statements apart). THE CARD IS WHAT COUNTS. Prove the row's statement (the work); the ties are given (YthhefjmdfdckjaaGreatDoorTie.lean); close each card by the builder's one call (the guide's Derived/Test/ToyasCard.lean, 'card_holds'). Laid BY PROGRAM, IN A SANDBOX (cutbox-door.mjs). By AI agents, Wed Nov 11 2026. No macro, syntax, notation, axiom, sorry.
-/
import Derived.Test.YthhefjmdfdckjaaGreatDoorRows
import GoSem.ClaimSeven
namespace Go.Proofs.YthhefjmdfdckjaaGreatDoor
namespace Rows

/-- THE TIED CARD OF 'redresslaw08.RefuseMeans'. -/
def refuseMeansCard : Claim7 := { stood := { row := refuseMeansRow, standIns := [], harness := (true, "c98182ca7c12f04488a25d54b415782412b1f5e4111bdc45e969ddfc0bfaa591"), looks := false }, kinds := [], alts := [], laidByText := true, laidKinds := [.data, .widerDeep, .pinned], laidTests := true, laidLooks := .later }
def RefuseMeansCardSaid : Prop := Claim7.holds Tryz.pinned (.plain (OpenSpec.ofChange refuseMeansSpec)) refuseMeansCard

/-- THE TIED CARD OF 'redresslaw08.RefuseTwice'. -/
def refuseTwiceCard : Claim7 := { stood := { row := refuseTwiceRow, standIns := [], harness := (true, "c98182ca7c12f04488a25d54b415782412b1f5e4111bdc45e969ddfc0bfaa591"), looks := false }, kinds := [], alts := [], laidByText := true, laidKinds := [.data, .widerDeep, .pinned], laidTests := true, laidLooks := .later }
def RefuseTwiceCardSaid : Prop := Claim7.holds Tryz.pinned (.plain (OpenSpec.ofChange refuseTwiceSpec)) refuseTwiceCard

/-- THE SECOND FORM's CARD OF 'redresslaw08.RefuseMeans'. -/
def refuseMeansUptoCard : Claim7 := { stood := { row := refuseMeansUptoRow, standIns := [], harness := (true, "c98182ca7c12f04488a25d54b415782412b1f5e4111bdc45e969ddfc0bfaa591"), looks := false }, kinds := [], alts := [], laidByText := true, laidKinds := [.data, .widerDeep, .pinned], laidTests := true, laidLooks := .later }
def RefuseMeansUptoCardSaid : Prop := Claim7.holds Tryz.pinned (.plain (OpenSpec.upto refuseMeansSpec)) refuseMeansUptoCard

/-- THE SECOND FORM's CARD OF 'redresslaw08.RefuseTwice'. -/
def refuseTwiceUptoCard : Claim7 := { stood := { row := refuseTwiceUptoRow, standIns := [], harness := (true, "c98182ca7c12f04488a25d54b415782412b1f5e4111bdc45e969ddfc0bfaa591"), looks := false }, kinds := [], alts := [], laidByText := true, laidKinds := [.data, .widerDeep, .pinned], laidTests := true, laidLooks := .later }
def RefuseTwiceUptoCardSaid : Prop := Claim7.holds Tryz.pinned (.plain (OpenSpec.upto refuseTwiceSpec)) refuseTwiceUptoCard
end Rows
end Go.Proofs.YthhefjmdfdckjaaGreatDoor
