/-
  DERIVED. GIVEN WITH THE SEED: THE CARDS: each row of YthhefjmdfdckjaaDoorRows.lean that lists a variable, with what it lists TIED to the program's text (the seventh form; the later family's looks); each row that meets fmt, with fmt's text TOLD by the authors' own Lean function (tested against real Go, not proved from fmt's source: count such statements apart). THE CARD IS WHAT COUNTS. Prove the row's statement (the work); the ties are given (YthhefjmdfdckjaaDoorTie.lean); close each card by the builder's one call (the guide's Derived/Test/ToyasCard.lean, 'card_holds'). Laid BY PROGRAM, IN A SANDBOX (cutbox-door.mjs). By AI agents, Wed Nov 11 2026. No macro, syntax, notation, axiom, sorry.
-/
import Derived.Test.YthhefjmdfdckjaaDoorRows
import GoSem.ClaimSeven
namespace Go.Proofs.YthhefjmdfdckjaaDoor
namespace Rows

/-- THE TIED CARD OF 'redresslaw08.RefuseSorts'. -/
def refuseSortsCard : Claim7 := { stood := { row := refuseSortsRow, standIns := [], harness := (true, "7249770f8ca100914fd603cac951149c4963e588dd8af93122f89254c65b2567"), looks := false }, kinds := [], alts := [], laidByText := true, laidKinds := [.data, .widerDeep, .pinned], laidTests := true, laidLooks := .later }
def RefuseSortsCardSaid : Prop := Claim7.holds Tryd.pinned (.plain (OpenSpec.ofChange refuseSortsSpec)) refuseSortsCard

/-- THE SECOND FORM's CARD OF 'redresslaw08.RefuseSorts'. -/
def refuseSortsUptoCard : Claim7 := { stood := { row := refuseSortsUptoRow, standIns := [], harness := (true, "7249770f8ca100914fd603cac951149c4963e588dd8af93122f89254c65b2567"), looks := false }, kinds := [], alts := [], laidByText := true, laidKinds := [.data, .widerDeep, .pinned], laidTests := true, laidLooks := .later }
def RefuseSortsUptoCardSaid : Prop := Claim7.holds Tryd.pinned (.plain (OpenSpec.upto refuseSortsSpec)) refuseSortsUptoCard
end Rows
end Go.Proofs.YthhefjmdfdckjaaDoor
