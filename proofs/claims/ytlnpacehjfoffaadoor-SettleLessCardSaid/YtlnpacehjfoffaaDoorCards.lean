/-
  DERIVED. GIVEN WITH THE SEED: THE CARDS: each row of YtlnpacehjfoffaaDoorRows.lean that lists a variable, with what it lists TIED to the program's text (the seventh form; the later family's looks); each row that meets fmt, with fmt's text TOLD by the authors' own Lean function (tested against real Go, not proved from fmt's source: count such statements apart). THE CARD IS WHAT COUNTS. Prove the row's statement (the work); the ties are given (YtlnpacehjfoffaaDoorTie.lean); close each card by the builder's one call (the guide's Derived/Test/ToyasCard.lean, 'card_holds'). Laid BY PROGRAM, IN A SANDBOX (cutbox-door.mjs). By AI agents, Wed Nov 11 2026. No macro, syntax, notation, axiom, sorry.
-/
import Derived.Test.YtlnpacehjfoffaaDoorRows
import GoSem.ClaimSeven
namespace Go.Proofs.YtlnpacehjfoffaaDoor
namespace Rows

/-- THE TIED CARD OF 'redresslaw10.SettleAll'. -/
def settleAllCard : Claim7 := { stood := { row := settleAllRow, standIns := [], harness := (true, "f152271a8145c46a4aff0242f889b00a043566a8dafe9df77221e854ec32a71b"), looks := false }, kinds := [], alts := [], laidByText := true, laidKinds := [.data, .widerDeep, .pinned], laidTests := true, laidLooks := .later }
def SettleAllCardSaid : Prop := Claim7.holds Tryd.pinned (.plain (OpenSpec.ofChange settleAllSpec)) settleAllCard

/-- THE TIED CARD OF 'redresslaw10.SettleBegins'. -/
def settleBeginsCard : Claim7 := { stood := { row := settleBeginsRow, standIns := [], harness := (true, "f152271a8145c46a4aff0242f889b00a043566a8dafe9df77221e854ec32a71b"), looks := false }, kinds := [], alts := [], laidByText := true, laidKinds := [.data, .widerDeep, .pinned], laidTests := true, laidLooks := .later }
def SettleBeginsCardSaid : Prop := Claim7.holds Tryd.pinned (.plain (OpenSpec.ofChange settleBeginsSpec)) settleBeginsCard

/-- THE TIED CARD OF 'redresslaw10.SettleTwice'. -/
def settleTwiceCard : Claim7 := { stood := { row := settleTwiceRow, standIns := [], harness := (true, "f152271a8145c46a4aff0242f889b00a043566a8dafe9df77221e854ec32a71b"), looks := false }, kinds := [], alts := [], laidByText := true, laidKinds := [.data, .widerDeep, .pinned], laidTests := true, laidLooks := .later }
def SettleTwiceCardSaid : Prop := Claim7.holds Tryd.pinned (.plain (OpenSpec.ofChange settleTwiceSpec)) settleTwiceCard

/-- THE TIED CARD OF 'redresslaw10.SettleEnds'. -/
def settleEndsCard : Claim7 := { stood := { row := settleEndsRow, standIns := [], harness := (true, "f152271a8145c46a4aff0242f889b00a043566a8dafe9df77221e854ec32a71b"), looks := false }, kinds := [], alts := [], laidByText := true, laidKinds := [.data, .widerDeep, .pinned], laidTests := true, laidLooks := .later }
def SettleEndsCardSaid : Prop := Claim7.holds Tryd.pinned (.plain (OpenSpec.ofChange settleEndsSpec)) settleEndsCard

/-- THE TIED CARD OF 'redresslaw10.SettleUnder'. -/
def settleUnderCard : Claim7 := { stood := { row := settleUnderRow, standIns := [], harness := (true, "f152271a8145c46a4aff0242f889b00a043566a8dafe9df77221e854ec32a71b"), looks := false }, kinds := [], alts := [], laidByText := true, laidKinds := [.data, .widerDeep, .pinned], laidTests := true, laidLooks := .later }
def SettleUnderCardSaid : Prop := Claim7.holds Tryd.pinned (.plain (OpenSpec.ofChange settleUnderSpec)) settleUnderCard

/-- THE TIED CARD OF 'redresslaw10.SettleLess'. -/
def settleLessCard : Claim7 := { stood := { row := settleLessRow, standIns := [], harness := (true, "f152271a8145c46a4aff0242f889b00a043566a8dafe9df77221e854ec32a71b"), looks := false }, kinds := [], alts := [], laidByText := true, laidKinds := [.data, .widerDeep, .pinned], laidTests := true, laidLooks := .later }
def SettleLessCardSaid : Prop := Claim7.holds Tryd.pinned (.plain (OpenSpec.ofChange settleLessSpec)) settleLessCard

/-- THE SECOND FORM's CARD OF 'redresslaw10.SettleAll'. -/
def settleAllUptoCard : Claim7 := { stood := { row := settleAllUptoRow, standIns := [], harness := (true, "f152271a8145c46a4aff0242f889b00a043566a8dafe9df77221e854ec32a71b"), looks := false }, kinds := [], alts := [], laidByText := true, laidKinds := [.data, .widerDeep, .pinned], laidTests := true, laidLooks := .later }
def SettleAllUptoCardSaid : Prop := Claim7.holds Tryd.pinned (.plain (OpenSpec.upto settleAllSpec)) settleAllUptoCard

/-- THE SECOND FORM's CARD OF 'redresslaw10.SettleBegins'. -/
def settleBeginsUptoCard : Claim7 := { stood := { row := settleBeginsUptoRow, standIns := [], harness := (true, "f152271a8145c46a4aff0242f889b00a043566a8dafe9df77221e854ec32a71b"), looks := false }, kinds := [], alts := [], laidByText := true, laidKinds := [.data, .widerDeep, .pinned], laidTests := true, laidLooks := .later }
def SettleBeginsUptoCardSaid : Prop := Claim7.holds Tryd.pinned (.plain (OpenSpec.upto settleBeginsSpec)) settleBeginsUptoCard

/-- THE SECOND FORM's CARD OF 'redresslaw10.SettleTwice'. -/
def settleTwiceUptoCard : Claim7 := { stood := { row := settleTwiceUptoRow, standIns := [], harness := (true, "f152271a8145c46a4aff0242f889b00a043566a8dafe9df77221e854ec32a71b"), looks := false }, kinds := [], alts := [], laidByText := true, laidKinds := [.data, .widerDeep, .pinned], laidTests := true, laidLooks := .later }
def SettleTwiceUptoCardSaid : Prop := Claim7.holds Tryd.pinned (.plain (OpenSpec.upto settleTwiceSpec)) settleTwiceUptoCard

/-- THE SECOND FORM's CARD OF 'redresslaw10.SettleEnds'. -/
def settleEndsUptoCard : Claim7 := { stood := { row := settleEndsUptoRow, standIns := [], harness := (true, "f152271a8145c46a4aff0242f889b00a043566a8dafe9df77221e854ec32a71b"), looks := false }, kinds := [], alts := [], laidByText := true, laidKinds := [.data, .widerDeep, .pinned], laidTests := true, laidLooks := .later }
def SettleEndsUptoCardSaid : Prop := Claim7.holds Tryd.pinned (.plain (OpenSpec.upto settleEndsSpec)) settleEndsUptoCard

/-- THE SECOND FORM's CARD OF 'redresslaw10.SettleUnder'. -/
def settleUnderUptoCard : Claim7 := { stood := { row := settleUnderUptoRow, standIns := [], harness := (true, "f152271a8145c46a4aff0242f889b00a043566a8dafe9df77221e854ec32a71b"), looks := false }, kinds := [], alts := [], laidByText := true, laidKinds := [.data, .widerDeep, .pinned], laidTests := true, laidLooks := .later }
def SettleUnderUptoCardSaid : Prop := Claim7.holds Tryd.pinned (.plain (OpenSpec.upto settleUnderSpec)) settleUnderUptoCard

/-- THE SECOND FORM's CARD OF 'redresslaw10.SettleLess'. -/
def settleLessUptoCard : Claim7 := { stood := { row := settleLessUptoRow, standIns := [], harness := (true, "f152271a8145c46a4aff0242f889b00a043566a8dafe9df77221e854ec32a71b"), looks := false }, kinds := [], alts := [], laidByText := true, laidKinds := [.data, .widerDeep, .pinned], laidTests := true, laidLooks := .later }
def SettleLessUptoCardSaid : Prop := Claim7.holds Tryd.pinned (.plain (OpenSpec.upto settleLessSpec)) settleLessUptoCard
end Rows
end Go.Proofs.YtlnpacehjfoffaaDoor
