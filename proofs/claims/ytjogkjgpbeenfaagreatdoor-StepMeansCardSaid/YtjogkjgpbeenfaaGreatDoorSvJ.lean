/- What the variables that the program lays hold, as the evaluator reads them. Written by a program (law3.py). -/
import Derived.Test.YtjogkjgpbeenfaaGreatDoorRows
import Derived.Test.YtjogkjgpbeenfaaGreatDoorZA
import Derived.Test.YtjogkjgpbeenfaaGreatDoorEv5
import Derived.LaidMore
import Derived.WalkKit
import Derived.ProofKit
import Derived.OpenShut
import Derived.ChangeOld
namespace Go.Proofs.YtjogkjgpbeenfaaGreatDoor
open Go.ChangeShapes Go.WideShapes Go.ChangeAt Go.RowKit Go.Sv
set_option linter.unusedVariables false
set_option maxRecDepth 100000
def yih : List (String × DataW Unit) := [("unicode/utf8.acceptRanges", Rows.laid_unicode_utf8_acceptRanges), ("redress/row.words", Rows.laid_redress_row_words), ("unicode/utf8.first", Rows.laid_unicode_utf8_first)]
theorem yxy {W : World} (h : laidMetH Tryz.prog yih W) : zqh Sv.E (fun _ => False) W := by
  rw [MakeChecks.laidMetH_plain _ _ _ (by kernel_rfl)] at h
  obtain ⟨ps, ⟨g0, t0, cs0, fu0, p0, q0, hg0, ht0, hv0, hd0, ⟨g1, t1, cs1, fu1, p1, q1, hg1, ht1, hv1, hd1, _, _⟩, _⟩, _, _⟩ := h
  obtain rfl := Option.some.inj ((show Tryz.prog.globalNamed "redress/row.words" = some 0 by kernel_rfl).symm.trans hg1)
  obtain rfl := Option.some.inj ((show (Tryz.prog.globals[0]?).map (·.type) = some 171 by kernel_rfl).symm.trans ht1)
  have cell := qve (ws := Sv.qak) (ps := p1) hg1 hv1 Tryz.underlying171 Tryz.underlying9 (by kernel_rfl) (hd1.trans (by kernel_rfl))
  intro g e u n hg
  have hg2 : (bif Nat.beq g 0 then some (9, Ty.str, 6) else none) = some (e, u, n) := hg
  cases hb : Nat.beq g 0 with
  | false => rw [hb] at hg2; cases hg2
  | true =>
    rw [hb] at hg2
    have hgg := Nat.eq_of_beq_eq_true hb
    subst hgg
    cases hg2
    exact ⟨rfl, yil rfl cell⟩
end Go.Proofs.YtjogkjgpbeenfaaGreatDoor
