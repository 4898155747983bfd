/- What the variables that the program lays hold, as the evaluator reads them. Written by a program (law3.py). -/
import Derived.Test.YtjolkdjkhekbnaaGreatDoorRows
import Derived.Test.YtjolkdjkhekbnaaGreatDoorX12
import Derived.ProofKit
import Derived.Lib.LaidTab
set_option linter.unusedVariables false
set_option linter.unusedSimpArgs false
namespace Go.Proofs.YtjolkdjkhekbnaaGreatDoor
open Go.ChangeShapes Go.WideShapes Go.ChangeAt Go.RowKit Go.Sv
set_option maxRecDepth 100000
def zvw:List (String×DataW Unit):=[("math/bits.deBruijn32tab",Rows.laid_math_bits_deBruijn32tab),("math/bits.deBruijn64tab",Rows.laid_math_bits_deBruijn64tab),("internal/strconv.uint64pow10",Rows.laid_internal_strconv_uint64pow10),("unicode/utf8.acceptRanges",Rows.laid_unicode_utf8_acceptRanges),("redress/row.words",Rows.laid_redress_row_words),("unicode/utf8.first",Rows.laid_unicode_utf8_first)]
theorem ynz {W:World} (h:laidMetH Tryz.prog zvw W):zfe Sv.E (fun _=>False) W:=by
 rw [MakeChecks.laidMetH_plain _ _ _ (by kernel_rfl)] at h;obtain ⟨ps,⟨g0,t0,cs0,fu0,p0,q0,hg0,ht0,hv0,hd0,⟨g1,t1,cs1,fu1,p1,q1,hg1,ht1,hv1,hd1,⟨g2,t2,cs2,fu2,p2,q2,hg2,ht2,hv2,hd2,⟨g3,t3,cs3,fu3,p3,q3,hg3,ht3,hv3,hd3,⟨g4,t4,cs4,fu4,p4,q4,hg4,ht4,hv4,hd4,_,_⟩,_⟩,_⟩,_⟩,_⟩,_,_⟩:=h;obtain rfl:=Option.some.inj ((show Tryz.prog.globalNamed "redress/row.words" =some 0 by kernel_rfl).symm.trans hg4);obtain rfl:=Option.some.inj ((show (Tryz.prog.globals[0]?).map (·.type)=some 263 by kernel_rfl).symm.trans ht4)
 have cell:=qzn (ws:=Sv.qbl) (ps:=p4) hg4 hv4 Tryz.underlying263 Tryz.underlying9 (by kernel_rfl) (hd4.trans (by kernel_rfl));obtain rfl:=Option.some.inj ((show Tryz.prog.globalNamed "internal/strconv.uint64pow10" =some 1 by kernel_rfl).symm.trans hg2);obtain rfl:=Option.some.inj ((show (Tryz.prog.globals[1]?).map (·.type)=some 265 by kernel_rfl).symm.trans ht2)
 have tab:=Go.Lib.cells_of_tab (k:=.u64) (zs:=Go.Lib.pow10Tab) (p:=p2) Tryz.underlying265 Tryz.underlying207 (by kernel_rfl) (by kernel_rfl) (hd2.trans (by kernel_rfl));refine ⟨fun g e u n hg=> ?_,fun g cs hg=> ?_⟩
 ·have hg2:(bif Nat.beq g 0 then some (9,Ty.str,6) else none)=some (e,u,n):=hg;cases hb:Nat.beq g 0 with
  |false=>rw [hb] at hg2;cases hg2
  |true=>rw [hb] at hg2;have hgg:=Nat.eq_of_beq_eq_true hb;subst hgg;cases hg2;exact ⟨rfl,yqt rfl cell⟩
 ·have hg2:(bif Nat.beq g 1 then some Sv.xex else none)=some cs:=hg;cases hb:Nat.beq g 1 with
  |false=>rw [hb] at hg2;cases hg2
  |true=>rw [hb] at hg2;have hgg:=Nat.eq_of_beq_eq_true hb;subst hgg;cases hg2;exact ⟨fun h=>h,yzi (by kernel_rfl) (hv2.trans (congrArg some (Array.toList_inj.1 (tab.trans (by rfl)))))⟩
end Go.Proofs.YtjolkdjkhekbnaaGreatDoor
