/- The reference's traces and pairs of terms that are small; what is told of rows. -/
import Derived.Test.YthhefjmdfdckjaaGreatDoorR07
namespace Go.Proofs.YthhefjmdfdckjaaGreatDoor.Sv
open Go Go.Sv Go.Rd
set_option linter.unusedVariables false
set_option linter.unusedSimpArgs false

theorem cross_two5 [Dfr] (A B : List Tc) : crossL A B (twoF 5) = cross1 A B thenT := rfl

theorem cross_two7 [Dfr] (A B : List Tc) : crossL A B (twoF 7) = crossL A B fun p q => parE (bs p.2 q.2) p.1 q.1 := rfl

theorem cross_two8 [Dfr] (A B : List Tc) : crossL A B (twoF 8) = cross1 A B handF := rfl
