/-
  DERIVED. GIVEN WITH THE SEED: THE CARDS: each row of YtjogkjgpbeenfaaDoorRows.lean that lists a variable, with what it lists TIED to the program's text (the seventh form; the later family's looks); each row that meets fmt, with fmt's text TOLD by the authors' own Lean function (tested against real Go, not proved from fmt's source: count such statements apart). THE CARD IS WHAT COUNTS. Prove the row's statement (the work); the ties are given (YtjogkjgpbeenfaaDoorTie.lean); close each card by the builder's one call (the guide's Derived/Test/ToyasCard.lean, 'card_holds'). Laid BY PROGRAM, IN A SANDBOX (cutbox-door.mjs). By AI agents, Wed Nov 11 2026. No macro, syntax, notation, axiom, sorry.
-/
import Derived.Test.YtjogkjgpbeenfaaDoorRows
import GoSem.ClaimSeven
namespace Go.Proofs.YtjogkjgpbeenfaaDoor
namespace Rows

/-- THE TIED CARD OF 'redresslaw13.StepPuts'. -/
def stepPutsCard : Claim7 := { stood := { row := stepPutsRow, standIns := [], harness := (true, "9ad9869ec9cb779bb5228f7596c39898412e53c418872ed25382f20bd0c7df0c"), looks := false }, kinds := [], alts := [], laidByText := true, laidKinds := [.data, .widerDeep, .pinned], laidTests := true, laidLooks := .later }
def StepPutsCardSaid : Prop := Claim7.holds Tryd.pinned (.plain (OpenSpec.ofChange stepPutsSpec)) stepPutsCard

/-- THE TIED CARD OF 'redresslaw13.StepKinds'. -/
def stepKindsCard : Claim7 := { stood := { row := stepKindsRow, standIns := [], harness := (true, "9ad9869ec9cb779bb5228f7596c39898412e53c418872ed25382f20bd0c7df0c"), looks := false }, kinds := [], alts := [], laidByText := true, laidKinds := [.data, .widerDeep, .pinned], laidTests := true, laidLooks := .later }
def StepKindsCardSaid : Prop := Claim7.holds Tryd.pinned (.plain (OpenSpec.ofChange stepKindsSpec)) stepKindsCard

/-- THE TIED CARD OF 'redresslaw13.StepRefuses'. -/
def stepRefusesCard : Claim7 := { stood := { row := stepRefusesRow, standIns := [], harness := (true, "9ad9869ec9cb779bb5228f7596c39898412e53c418872ed25382f20bd0c7df0c"), looks := false }, kinds := [], alts := [], laidByText := true, laidKinds := [.data, .widerDeep, .pinned], laidTests := true, laidLooks := .later }
def StepRefusesCardSaid : Prop := Claim7.holds Tryd.pinned (.plain (OpenSpec.ofChange stepRefusesSpec)) stepRefusesCard

/-- THE TIED CARD OF 'redresslaw13.StepLess'. -/
def stepLessCard : Claim7 := { stood := { row := stepLessRow, standIns := [], harness := (true, "9ad9869ec9cb779bb5228f7596c39898412e53c418872ed25382f20bd0c7df0c"), looks := false }, kinds := [], alts := [], laidByText := true, laidKinds := [.data, .widerDeep, .pinned], laidTests := true, laidLooks := .later }
def StepLessCardSaid : Prop := Claim7.holds Tryd.pinned (.plain (OpenSpec.ofChange stepLessSpec)) stepLessCard

/-- THE TIED CARD OF 'redresslaw13.StepBeside'. -/
def stepBesideCard : Claim7 := { stood := { row := stepBesideRow, standIns := [], harness := (true, "9ad9869ec9cb779bb5228f7596c39898412e53c418872ed25382f20bd0c7df0c"), looks := false }, kinds := [], alts := [], laidByText := true, laidKinds := [.data, .widerDeep, .pinned], laidTests := true, laidLooks := .later }
def StepBesideCardSaid : Prop := Claim7.holds Tryd.pinned (.plain (OpenSpec.ofChange stepBesideSpec)) stepBesideCard

/-- THE SECOND FORM's CARD OF 'redresslaw13.StepPuts'. -/
def stepPutsUptoCard : Claim7 := { stood := { row := stepPutsUptoRow, standIns := [], harness := (true, "9ad9869ec9cb779bb5228f7596c39898412e53c418872ed25382f20bd0c7df0c"), looks := false }, kinds := [], alts := [], laidByText := true, laidKinds := [.data, .widerDeep, .pinned], laidTests := true, laidLooks := .later }
def StepPutsUptoCardSaid : Prop := Claim7.holds Tryd.pinned (.plain (OpenSpec.upto stepPutsSpec)) stepPutsUptoCard

/-- THE SECOND FORM's CARD OF 'redresslaw13.StepKinds'. -/
def stepKindsUptoCard : Claim7 := { stood := { row := stepKindsUptoRow, standIns := [], harness := (true, "9ad9869ec9cb779bb5228f7596c39898412e53c418872ed25382f20bd0c7df0c"), looks := false }, kinds := [], alts := [], laidByText := true, laidKinds := [.data, .widerDeep, .pinned], laidTests := true, laidLooks := .later }
def StepKindsUptoCardSaid : Prop := Claim7.holds Tryd.pinned (.plain (OpenSpec.upto stepKindsSpec)) stepKindsUptoCard

/-- THE SECOND FORM's CARD OF 'redresslaw13.StepRefuses'. -/
def stepRefusesUptoCard : Claim7 := { stood := { row := stepRefusesUptoRow, standIns := [], harness := (true, "9ad9869ec9cb779bb5228f7596c39898412e53c418872ed25382f20bd0c7df0c"), looks := false }, kinds := [], alts := [], laidByText := true, laidKinds := [.data, .widerDeep, .pinned], laidTests := true, laidLooks := .later }
def StepRefusesUptoCardSaid : Prop := Claim7.holds Tryd.pinned (.plain (OpenSpec.upto stepRefusesSpec)) stepRefusesUptoCard

/-- THE SECOND FORM's CARD OF 'redresslaw13.StepLess'. -/
def stepLessUptoCard : Claim7 := { stood := { row := stepLessUptoRow, standIns := [], harness := (true, "9ad9869ec9cb779bb5228f7596c39898412e53c418872ed25382f20bd0c7df0c"), looks := false }, kinds := [], alts := [], laidByText := true, laidKinds := [.data, .widerDeep, .pinned], laidTests := true, laidLooks := .later }
def StepLessUptoCardSaid : Prop := Claim7.holds Tryd.pinned (.plain (OpenSpec.upto stepLessSpec)) stepLessUptoCard

/-- THE SECOND FORM's CARD OF 'redresslaw13.StepBeside'. -/
def stepBesideUptoCard : Claim7 := { stood := { row := stepBesideUptoRow, standIns := [], harness := (true, "9ad9869ec9cb779bb5228f7596c39898412e53c418872ed25382f20bd0c7df0c"), looks := false }, kinds := [], alts := [], laidByText := true, laidKinds := [.data, .widerDeep, .pinned], laidTests := true, laidLooks := .later }
def StepBesideUptoCardSaid : Prop := Claim7.holds Tryd.pinned (.plain (OpenSpec.upto stepBesideSpec)) stepBesideUptoCard
end Rows
end Go.Proofs.YtjogkjgpbeenfaaDoor
