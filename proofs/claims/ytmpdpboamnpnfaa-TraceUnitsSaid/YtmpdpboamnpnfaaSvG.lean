/- The functions of the seat by name, as the evaluator tells them: what each tells in the end, and its equation, checked by the kernel. Written by a program (gen.py, emit3.py). -/

import Derived.Test.YtmpdpboamnpnfaaSvE
namespace Go.Proofs.Ytmpdpboamnpnfaa.Sv
open Go Go.Sv Go.Proofs
set_option linter.unusedVariables false
set_option maxRecDepth 100000
/-! redress/redresslaw02.TraceOrder -/
noncomputable def law02_TraceOrder [Dfr] (x0 : Tc) (x1 : Tc) : Option (Bool) := lim fun k => run E k 3 (x0, x1)
theorem law02_TraceOrder_lim [Dfr] (x0 : Tc) (x1 : Tc) : IsLim (fun k => run E k 3 (x0, x1)) (law02_TraceOrder x0 x1) := .run _ _
/-! redress/redresslaw02.TraceSets -/
noncomputable def law02_TraceSets [Dfr] (x0 : List Tc) (x1 : List Tc) (x2 : Tc) : Option (Bool) := lim fun k => run E k 4 (x0, x1, x2)
theorem law02_TraceSets_lim [Dfr] (x0 : List Tc) (x1 : List Tc) (x2 : Tc) : IsLim (fun k => run E k 4 (x0, x1, x2)) (law02_TraceSets x0 x1 x2) := .run _ _
/-! redress/redresslaw02.TraceThen -/
noncomputable def law02_TraceThen [Dfr] (x0 : Tc) (x1 : Tc) (x2 : Tc) : Option (Bool) := lim fun k => run E k 5 (x0, x1, x2)
theorem law02_TraceThen_lim [Dfr] (x0 : Tc) (x1 : Tc) (x2 : Tc) : IsLim (fun k => run E k 5 (x0, x1, x2)) (law02_TraceThen x0 x1 x2) := .run _ _
/-! redress/redresslaw02.TraceMix -/
noncomputable def law02_TraceMix [Dfr] (x0 : List ByteArray) (x1 : List ByteArray) : Option (Bool) := lim fun k => run E k 6 (x0, x1)
theorem law02_TraceMix_lim [Dfr] (x0 : List ByteArray) (x1 : List ByteArray) : IsLim (fun k => run E k 6 (x0, x1)) (law02_TraceMix x0 x1) := .run _ _
noncomputable def law02_TraceMix_l0 [Dfr] (y0 : List ByteArray) (y1 : List ByteArray) (y4 : Bool) (y32 : List (List ByteArray)) (y33 : Int) (y34 : Int) : Option (Nat × Bool) := lim fun k => lp E 6 0 k k (y0, y1, y4, y32, y33, y34)
theorem law02_TraceMix_l0_lim [Dfr] (y0 : List ByteArray) (y1 : List ByteArray) (y4 : Bool) (y32 : List (List ByteArray)) (y33 : Int) (y34 : Int) : IsLim (fun k => lp E 6 0 k k (y0, y1, y4, y32, y33, y34)) (law02_TraceMix_l0 y0 y1 y4 y32 y33 y34) := .lp _ _ _
/-! redress/redresslaw02.TracePar -/
noncomputable def law02_TracePar [Dfr] (x0 : Tc) (x1 : Tc) : Option (Bool) := lim fun k => run E k 7 (x0, x1)
theorem law02_TracePar_lim [Dfr] (x0 : Tc) (x1 : Tc) : IsLim (fun k => run E k 7 (x0, x1)) (law02_TracePar x0 x1) := .run _ _
/-! redress/redresslaw02.TraceCount -/
noncomputable def law02_TraceCount [Dfr] (x0 : Int) (x1 : Int) : Option (Bool) := lim fun k => run E k 8 (x0, x1)
theorem law02_TraceCount_lim [Dfr] (x0 : Int) (x1 : Int) : IsLim (fun k => run E k 8 (x0, x1)) (law02_TraceCount x0 x1) := .run _ _
noncomputable def law02_TraceCount_l0 [Dfr] (y0 : Int) (y1 : Int) (y5 : ByteArray) (y6 : List ByteArray) (y7 : List ByteArray) (y8 : Int) (y32 : Int) (y33 : Int) : Option (Nat × (Int × Int × ByteArray × List ByteArray × List ByteArray × Int)) := lim fun k => lp E 8 0 k k (y0, y1, y5, y6, y7, y8, y32, y33)
theorem law02_TraceCount_l0_lim [Dfr] (y0 : Int) (y1 : Int) (y5 : ByteArray) (y6 : List ByteArray) (y7 : List ByteArray) (y8 : Int) (y32 : Int) (y33 : Int) : IsLim (fun k => lp E 8 0 k k (y0, y1, y5, y6, y7, y8, y32, y33)) (law02_TraceCount_l0 y0 y1 y5 y6 y7 y8 y32 y33) := .lp _ _ _
noncomputable def law02_TraceCount_l2 [Dfr] (y0 : Int) (y5 : ByteArray) (y6 : List ByteArray) (y7 : List ByteArray) (y8 : Int) (y45 : Int) (y46 : Int) : Option (Nat × (List ByteArray × List ByteArray × Int)) := lim fun k => lp E 8 2 k k (y0, y5, y6, y7, y8, y45, y46)
theorem law02_TraceCount_l2_lim [Dfr] (y0 : Int) (y5 : ByteArray) (y6 : List ByteArray) (y7 : List ByteArray) (y8 : Int) (y45 : Int) (y46 : Int) : IsLim (fun k => lp E 8 2 k k (y0, y5, y6, y7, y8, y45, y46)) (law02_TraceCount_l2 y0 y5 y6 y7 y8 y45 y46) := .lp _ _ _
/-! redress/redresslaw02.TraceTexts -/
noncomputable def law02_TraceTexts [Dfr] (x0 : Tc) : Option (Bool) := lim fun k => run E k 9 x0
theorem law02_TraceTexts_lim [Dfr] (x0 : Tc) : IsLim (fun k => run E k 9 x0) (law02_TraceTexts x0) := .run _ _
/-! redress/redresslaw02.TraceUnits -/
noncomputable def law02_TraceUnits [Dfr] (x0 : Tc) (x1 : Tc) : Option (Bool) := lim fun k => run E k 10 (x0, x1)
theorem law02_TraceUnits_lim [Dfr] (x0 : Tc) (x1 : Tc) : IsLim (fun k => run E k 10 (x0, x1)) (law02_TraceUnits x0 x1) := .run _ _
/-! redress/redresslaw02.few -/
noncomputable def law02_few [Dfr] (x0 : List Tc) : Option (Bool) := lim fun k => run E k 11 x0
theorem law02_few_lim [Dfr] (x0 : List Tc) : IsLim (fun k => run E k 11 x0) (law02_few x0) := .run _ _
noncomputable def law02_few_l0 [Dfr] (y0 : List Tc) (y3 : Int) (y6 : List Tc) (y7 : Int) (y8 : Int) : Option (Nat × (List Tc × Int)) := lim fun k => lp E 11 0 k k (y0, y3, y6, y7, y8)
theorem law02_few_l0_lim [Dfr] (y0 : List Tc) (y3 : Int) (y6 : List Tc) (y7 : Int) (y8 : Int) : IsLim (fun k => lp E 11 0 k k (y0, y3, y6, y7, y8)) (law02_few_l0 y0 y3 y6 y7 y8) := .lp _ _ _
/-! redress/redresslaw02.alive -/
noncomputable def law02_alive [Dfr] : Option (Bool) := lim fun k => run E k 12 ()
theorem law02_alive_lim [Dfr] : IsLim (fun k => run E k 12 ()) (law02_alive) := .run _ _
/-! redress/redresslaw02.TraceOrder$1 -/
noncomputable def law02_TraceOrder_1 [Dfr] (x0 : Int) : Option (Int) := lim fun k => run E k 13 x0
theorem law02_TraceOrder_1_lim [Dfr] (x0 : Int) : IsLim (fun k => run E k 13 x0) (law02_TraceOrder_1 x0) := .run _ _
/-! redress/trace.Compare -/
noncomputable def trace_Compare [Dfr] (x0 : Tc) (x1 : Tc) : Option (Int) := lim fun k => run E k 14 (x0, x1)
theorem trace_Compare_lim [Dfr] (x0 : Tc) (x1 : Tc) : IsLim (fun k => run E k 14 (x0, x1)) (trace_Compare x0 x1) := .run _ _
/-! redress/redressref02.Compare -/
noncomputable def ref02_Compare [Dfr] (x0 : Tc) (x1 : Tc) : Option (Int) := lim fun k => run E k 15 (x0, x1)
theorem ref02_Compare_lim [Dfr] (x0 : Tc) (x1 : Tc) : IsLim (fun k => run E k 15 (x0, x1)) (ref02_Compare x0 x1) := .run _ _
/-! redress/redresslaw02.News -/
noncomputable def law02_News [Dfr] (x0 : List Tc) : Option (List Tc) := lim fun k => run E k 16 x0
theorem law02_News_lim [Dfr] (x0 : List Tc) : IsLim (fun k => run E k 16 x0) (law02_News x0) := .run _ _
noncomputable def law02_News_l0 [Dfr] (y3 : List Tc) (y6 : List Tc) (y7 : Int) (y8 : Int) : Option (Nat × List Tc) := lim fun k => lp E 16 0 k k (y3, y6, y7, y8)
theorem law02_News_l0_lim [Dfr] (y3 : List Tc) (y6 : List Tc) (y7 : Int) (y8 : Int) : IsLim (fun k => lp E 16 0 k k (y3, y6, y7, y8)) (law02_News_l0 y3 y6 y7 y8) := .lp _ _ _
/-! redress/trace.Set -/
noncomputable def trace_Set [Dfr] (x0 : List Tc) : Option (List Tc) := lim fun k => run E k 17 x0
theorem trace_Set_lim [Dfr] (x0 : List Tc) : IsLim (fun k => run E k 17 x0) (trace_Set x0) := .run _ _
/-! redress/trace.Or -/
noncomputable def trace_Or [Dfr] (x0 : List Tc) (x1 : List Tc) : Option (List Tc) := lim fun k => run E k 18 (x0, x1)
theorem trace_Or_lim [Dfr] (x0 : List Tc) (x1 : List Tc) : IsLim (fun k => run E k 18 (x0, x1)) (trace_Or x0 x1) := .run _ _
/-! redress/redressref02.Same -/
noncomputable def ref02_Same [Dfr] (x0 : List Tc) (x1 : List Tc) : Option (Bool) := lim fun k => run E k 19 (x0, x1)
theorem ref02_Same_lim [Dfr] (x0 : List Tc) (x1 : List Tc) : IsLim (fun k => run E k 19 (x0, x1)) (ref02_Same x0 x1) := .run _ _
noncomputable def ref02_Same_l0 [Dfr] (y0 : List Tc) (y1 : List Tc) (y4 : Bool) (y5 : Int) : Option (Nat × Bool) := lim fun k => lp E 19 0 k k (y0, y1, y4, y5)
theorem ref02_Same_l0_lim [Dfr] (y0 : List Tc) (y1 : List Tc) (y4 : Bool) (y5 : Int) : IsLim (fun k => lp E 19 0 k k (y0, y1, y4, y5)) (ref02_Same_l0 y0 y1 y4 y5) := .lp _ _ _
/-! redress/redresslaw02.Olds -/
noncomputable def law02_Olds [Dfr] (x0 : List Tc) : Option (List Tc) := lim fun k => run E k 20 x0
theorem law02_Olds_lim [Dfr] (x0 : List Tc) : IsLim (fun k => run E k 20 x0) (law02_Olds x0) := .run _ _
noncomputable def law02_Olds_l0 [Dfr] (y3 : List Tc) (y6 : List Tc) (y7 : Int) (y8 : Int) : Option (Nat × List Tc) := lim fun k => lp E 20 0 k k (y3, y6, y7, y8)
theorem law02_Olds_l0_lim [Dfr] (y3 : List Tc) (y6 : List Tc) (y7 : Int) (y8 : Int) : IsLim (fun k => lp E 20 0 k k (y3, y6, y7, y8)) (law02_Olds_l0 y3 y6 y7 y8) := .lp _ _ _
/-! redress/redressref02.Set -/
noncomputable def ref02_Set [Dfr] (x0 : List Tc) : Option (List Tc) := lim fun k => run E k 21 x0
theorem ref02_Set_lim [Dfr] (x0 : List Tc) : IsLim (fun k => run E k 21 x0) (ref02_Set x0) := .run _ _
/-! redress/redressref02.Or -/
noncomputable def ref02_Or [Dfr] (x0 : List Tc) (x1 : List Tc) : Option (List Tc) := lim fun k => run E k 22 (x0, x1)
theorem ref02_Or_lim [Dfr] (x0 : List Tc) (x1 : List Tc) : IsLim (fun k => run E k 22 (x0, x1)) (ref02_Or x0 x1) := .run _ _
/-! redress/trace.Has -/
noncomputable def trace_Has [Dfr] (x0 : List Tc) (x1 : Tc) : Option (Bool) := lim fun k => run E k 23 (x0, x1)
theorem trace_Has_lim [Dfr] (x0 : List Tc) (x1 : Tc) : IsLim (fun k => run E k 23 (x0, x1)) (trace_Has x0 x1) := .run _ _
/-! redress/redressref02.Has -/
noncomputable def ref02_Has [Dfr] (x0 : List Tc) (x1 : Tc) : Option (Bool) := lim fun k => run E k 24 (x0, x1)
theorem ref02_Has_lim [Dfr] (x0 : List Tc) (x1 : Tc) : IsLim (fun k => run E k 24 (x0, x1)) (ref02_Has x0 x1) := .run _ _
noncomputable def ref02_Has_l0 [Dfr] (y0 : List Tc) (y3 : Tc) (y4 : Bool) (y5 : Int) : Option (Nat × Bool) := lim fun k => lp E 24 0 k k (y0, y3, y4, y5)
theorem ref02_Has_l0_lim [Dfr] (y0 : List Tc) (y3 : Tc) (y4 : Bool) (y5 : Int) : IsLim (fun k => lp E 24 0 k k (y0, y3, y4, y5)) (ref02_Has_l0 y0 y3 y4 y5) := .lp _ _ _
/-! redress/trace.Then -/
noncomputable def trace_Then [Dfr] (x0 : Tc) (x1 : Tc) : Option (Tc) := lim fun k => run E k 25 (x0, x1)
theorem trace_Then_lim [Dfr] (x0 : Tc) (x1 : Tc) : IsLim (fun k => run E k 25 (x0, x1)) (trace_Then x0 x1) := .run _ _
/-! redress/redressref02.Then -/
noncomputable def ref02_Then [Dfr] (x0 : Tc) (x1 : Tc) : Option (Tc) := lim fun k => run E k 26 (x0, x1)
theorem ref02_Then_lim [Dfr] (x0 : Tc) (x1 : Tc) : IsLim (fun k => run E k 26 (x0, x1)) (ref02_Then x0 x1) := .run _ _
/-! redress/trace.Mix -/
noncomputable def trace_Mix [Dfr] (x0 : List ByteArray) (x1 : List ByteArray) : Option (List (List ByteArray)) := lim fun k => run E k 27 (x0, x1)
theorem trace_Mix_lim [Dfr] (x0 : List ByteArray) (x1 : List ByteArray) : IsLim (fun k => run E k 27 (x0, x1)) (trace_Mix x0 x1) := .run _ _
/-! redress/redresslaw02.rows -/
noncomputable def law02_rows [Dfr] (x0 : List (List ByteArray)) (x1 : List (List ByteArray)) : Option (Bool) := lim fun k => run E k 28 (x0, x1)
theorem law02_rows_lim [Dfr] (x0 : List (List ByteArray)) (x1 : List (List ByteArray)) : IsLim (fun k => run E k 28 (x0, x1)) (law02_rows x0 x1) := .run _ _
noncomputable def law02_rows_l0 [Dfr] (y0 : List (List ByteArray)) (y1 : List (List ByteArray)) (y4 : Bool) (y12 : Int) (y13 : Int) : Option (Nat × Bool) := lim fun k => lp E 28 0 k k (y0, y1, y4, y12, y13)
theorem law02_rows_l0_lim [Dfr] (y0 : List (List ByteArray)) (y1 : List (List ByteArray)) (y4 : Bool) (y12 : Int) (y13 : Int) : IsLim (fun k => lp E 28 0 k k (y0, y1, y4, y12, y13)) (law02_rows_l0 y0 y1 y4 y12 y13) := .lp _ _ _
/-! redress/redressref02.Mix -/
noncomputable def ref02_Mix [Dfr] (x0 : List ByteArray) (x1 : List ByteArray) : Option (List (List ByteArray)) := lim fun k => run E k 29 (x0, x1)
theorem ref02_Mix_lim [Dfr] (x0 : List ByteArray) (x1 : List ByteArray) : IsLim (fun k => run E k 29 (x0, x1)) (ref02_Mix x0 x1) := .run _ _
noncomputable def ref02_Mix_l0 [Dfr] (y5 : List (List ByteArray)) (y6 : List Tc) (y7 : Int) : Option (Nat × List (List ByteArray)) := lim fun k => lp E 29 0 k k (y5, y6, y7)
theorem ref02_Mix_l0_lim [Dfr] (y5 : List (List ByteArray)) (y6 : List Tc) (y7 : Int) : IsLim (fun k => lp E 29 0 k k (y5, y6, y7)) (ref02_Mix_l0 y5 y6 y7) := .lp _ _ _
/-! redress/redresslaw02.within -/
noncomputable def law02_within [Dfr] (x0 : List ByteArray) (x1 : List ByteArray) : Option (Bool) := lim fun k => run E k 30 (x0, x1)
theorem law02_within_lim [Dfr] (x0 : List ByteArray) (x1 : List ByteArray) : IsLim (fun k => run E k 30 (x0, x1)) (law02_within x0 x1) := .run _ _
noncomputable def law02_within_l0 [Dfr] (y0 : List ByteArray) (y5 : Int) (y8 : List ByteArray) (y9 : Int) (y10 : Int) : Option (Nat × (List ByteArray × Int)) := lim fun k => lp E 30 0 k k (y0, y5, y8, y9, y10)
theorem law02_within_l0_lim [Dfr] (y0 : List ByteArray) (y5 : Int) (y8 : List ByteArray) (y9 : Int) (y10 : Int) : IsLim (fun k => lp E 30 0 k k (y0, y5, y8, y9, y10)) (law02_within_l0 y0 y5 y8 y9 y10) := .lp _ _ _
/-! redress/trace.Par -/
noncomputable def trace_Par [Dfr] (x0 : Tc) (x1 : Tc) : Option (List Tc) := lim fun k => run E k 31 (x0, x1)
theorem trace_Par_lim [Dfr] (x0 : Tc) (x1 : Tc) : IsLim (fun k => run E k 31 (x0, x1)) (trace_Par x0 x1) := .run _ _
noncomputable def trace_Par_l0 [Dfr] (y5 : Int) (y6 : List Tc) (y18 : List (List ByteArray)) (y19 : Int) (y20 : Int) : Option (Nat × List Tc) := lim fun k => lp E 31 0 k k (y5, y6, y18, y19, y20)
theorem trace_Par_l0_lim [Dfr] (y5 : Int) (y6 : List Tc) (y18 : List (List ByteArray)) (y19 : Int) (y20 : Int) : IsLim (fun k => lp E 31 0 k k (y5, y6, y18, y19, y20)) (trace_Par_l0 y5 y6 y18 y19 y20) := .lp _ _ _
/-! redress/redressref02.Par -/
noncomputable def ref02_Par [Dfr] (x0 : Tc) (x1 : Tc) : Option (List Tc) := lim fun k => run E k 32 (x0, x1)
theorem ref02_Par_lim [Dfr] (x0 : Tc) (x1 : Tc) : IsLim (fun k => run E k 32 (x0, x1)) (ref02_Par x0 x1) := .run _ _
noncomputable def ref02_Par_l0 [Dfr] (y2 : Tc) (y3 : Tc) (y5 : List Tc) (y6 : List (List ByteArray)) (y7 : Int) : Option (Nat × List Tc) := lim fun k => lp E 32 0 k k (y2, y3, y5, y6, y7)
theorem ref02_Par_l0_lim [Dfr] (y2 : Tc) (y3 : Tc) (y5 : List Tc) (y6 : List (List ByteArray)) (y7 : Int) : IsLim (fun k => lp E 32 0 k k (y2, y3, y5, y6, y7)) (ref02_Par_l0 y2 y3 y5 y6 y7) := .lp _ _ _
/-! redress/trace.Text -/
noncomputable def trace_Text [Dfr] (x0 : Tc) : Option (ByteArray) := lim fun k => run E k 33 x0
theorem trace_Text_lim [Dfr] (x0 : Tc) : IsLim (fun k => run E k 33 x0) (trace_Text x0) := .run _ _
noncomputable def trace_Text_l0 [Dfr] (y1 : Tc) (y3 : ByteArray) (y7 : List ByteArray) (y8 : Int) (y9 : Int) : Option (Nat × (Tc × ByteArray)) := lim fun k => lp E 33 0 k k (y1, y3, y7, y8, y9)
theorem trace_Text_l0_lim [Dfr] (y1 : Tc) (y3 : ByteArray) (y7 : List ByteArray) (y8 : Int) (y9 : Int) : IsLim (fun k => lp E 33 0 k k (y1, y3, y7, y8, y9)) (trace_Text_l0 y1 y3 y7 y8 y9) := .lp _ _ _
/-! redress/redressref02.Text -/
noncomputable def ref02_Text [Dfr] (x0 : Tc) : Option (ByteArray) := lim fun k => run E k 34 x0
theorem ref02_Text_lim [Dfr] (x0 : Tc) : IsLim (fun k => run E k 34 x0) (ref02_Text x0) := .run _ _
noncomputable def ref02_Text_l0 [Dfr] (y1 : Tc) (y3 : ByteArray) (y4 : Int) : Option (Nat × (Tc × ByteArray)) := lim fun k => lp E 34 0 k k (y1, y3, y4)
theorem ref02_Text_l0_lim [Dfr] (y1 : Tc) (y3 : ByteArray) (y4 : Int) : IsLim (fun k => lp E 34 0 k k (y1, y3, y4)) (ref02_Text_l0 y1 y3 y4) := .lp _ _ _
/-! (redress/trace.Trace).compare -/
noncomputable def trace_Trace_compare [Dfr] (x0 : Tc) (x1 : Tc) : Option (Int) := lim fun k => run E k 35 (x0, x1)
theorem trace_Trace_compare_lim [Dfr] (x0 : Tc) (x1 : Tc) : IsLim (fun k => run E k 35 (x0, x1)) (trace_Trace_compare x0 x1) := .run _ _
/-! redress/redressref02.Row -/
noncomputable def ref02_Row [Dfr] (x0 : List ByteArray) (x1 : List ByteArray) : Option (Int) := lim fun k => run E k 36 (x0, x1)
theorem ref02_Row_lim [Dfr] (x0 : List ByteArray) (x1 : List ByteArray) : IsLim (fun k => run E k 36 (x0, x1)) (ref02_Row x0 x1) := .run _ _
noncomputable def ref02_Row_l0 [Dfr] (y0 : List ByteArray) (y1 : List ByteArray) (y4 : Int) (y5 : Int) : Option (Nat × (List ByteArray × List ByteArray × Int)) := lim fun k => lp E 36 0 k k (y0, y1, y4, y5)
theorem ref02_Row_l0_lim [Dfr] (y0 : List ByteArray) (y1 : List ByteArray) (y4 : Int) (y5 : Int) : IsLim (fun k => lp E 36 0 k k (y0, y1, y4, y5)) (ref02_Row_l0 y0 y1 y4 y5) := .lp _ _ _
/-! slices.Clone[[]redress/trace.Trace,redress/trace.Trace] -/
noncomputable def slices_Clone__trace_Trace [Dfr] (x0 : List Tc) : Option (List Tc) := lim fun k => run E k 37 x0
theorem slices_Clone__trace_Trace_lim [Dfr] (x0 : List Tc) : IsLim (fun k => run E k 37 x0) (slices_Clone__trace_Trace x0) := .run _ _
/-! redress/trace.Set$1 -/
noncomputable def trace_Set_1 [Dfr] (x0 : Tc) (x1 : Tc) : Option (Bool) := lim fun k => run E k 40 (x0, x1)
theorem trace_Set_1_lim [Dfr] (x0 : Tc) (x1 : Tc) : IsLim (fun k => run E k 40 (x0, x1)) (trace_Set_1 x0 x1) := .run _ _
/-! slices.Concat[[]redress/trace.Trace,redress/trace.Trace] -/
noncomputable def slices_Concat__trace_Trace [Dfr] (x0 : List (List Tc)) : Option (List Tc) := lim fun k => run E k 41 x0
theorem slices_Concat__trace_Trace_lim [Dfr] (x0 : List (List Tc)) : IsLim (fun k => run E k 41 x0) (slices_Concat__trace_Trace x0) := .run _ _
noncomputable def slices_Concat__trace_Trace_l0 [Dfr] (y0 : List (List Tc)) (y3 : Int) (y9 : List (List Tc)) (y10 : Int) (y11 : Int) : Option (Nat × (List (List Tc) × Int)) := lim fun k => lp E 41 0 k k (y0, y3, y9, y10, y11)
theorem slices_Concat__trace_Trace_l0_lim [Dfr] (y0 : List (List Tc)) (y3 : Int) (y9 : List (List Tc)) (y10 : Int) (y11 : Int) : IsLim (fun k => lp E 41 0 k k (y0, y3, y9, y10, y11)) (slices_Concat__trace_Trace_l0 y0 y3 y9 y10 y11) := .lp _ _ _
noncomputable def slices_Concat__trace_Trace_l2 [Dfr] (y6 : List Tc) (y25 : List (List Tc)) (y26 : Int) (y27 : Int) : Option (Nat × List Tc) := lim fun k => lp E 41 2 k k (y6, y25, y26, y27)
theorem slices_Concat__trace_Trace_l2_lim [Dfr] (y6 : List Tc) (y25 : List (List Tc)) (y26 : Int) (y27 : Int) : IsLim (fun k => lp E 41 2 k k (y6, y25, y26, y27)) (slices_Concat__trace_Trace_l2 y6 y25 y26 y27) := .lp _ _ _
/-! redress/redressref02.merge -/
noncomputable def ref02_merge [Dfr] (x0 : List Tc) (x1 : List Tc) : Option (List Tc) := lim fun k => run E k 42 (x0, x1)
theorem ref02_merge_lim [Dfr] (x0 : List Tc) (x1 : List Tc) : IsLim (fun k => run E k 42 (x0, x1)) (ref02_merge x0 x1) := .run _ _
noncomputable def ref02_merge_l0 [Dfr] (y0 : List Tc) (y1 : List Tc) (y5 : List Tc) (y6 : Int) (y7 : Int) : Option (Nat × List Tc) := lim fun k => lp E 42 0 k k (y0, y1, y5, y6, y7)
theorem ref02_merge_l0_lim [Dfr] (y0 : List Tc) (y1 : List Tc) (y5 : List Tc) (y6 : Int) (y7 : Int) : IsLim (fun k => lp E 42 0 k k (y0, y1, y5, y6, y7)) (ref02_merge_l0 y0 y1 y5 y6 y7) := .lp _ _ _
/-! slices.ContainsFunc[[]redress/trace.Trace,redress/trace.Trace] -/
noncomputable def slices_ContainsFunc__trace_Trace [Dfr] (x0 : List Tc) (x1 : FnV) : Option (Bool) := lim fun k => run E k 43 (x0, x1)
theorem slices_ContainsFunc__trace_Trace_lim [Dfr] (x0 : List Tc) (x1 : FnV) : IsLim (fun k => run E k 43 (x0, x1)) (slices_ContainsFunc__trace_Trace x0 x1) := .run _ _
/-! redress/trace.Has$1 -/
noncomputable def trace_Has_1 [Dfr] (x0 : Tc) (x1 : Tc) : Option (Bool) := lim fun k => run E k 44 (x0, x1)
theorem trace_Has_1_lim [Dfr] (x0 : Tc) (x1 : Tc) : IsLim (fun k => run E k 44 (x0, x1)) (trace_Has_1 x0 x1) := .run _ _
/-! slices.Clone[[]string,string] -/
noncomputable def slices_Clone__string [Dfr] (x0 : List ByteArray) : Option (List ByteArray) := lim fun k => run E k 45 x0
theorem slices_Clone__string_lim [Dfr] (x0 : List ByteArray) : IsLim (fun k => run E k 45 x0) (slices_Clone__string x0) := .run _ _
/-! slices.Concat[[]string,string] -/
noncomputable def slices_Concat__string [Dfr] (x0 : List (List ByteArray)) : Option (List ByteArray) := lim fun k => run E k 46 x0
theorem slices_Concat__string_lim [Dfr] (x0 : List (List ByteArray)) : IsLim (fun k => run E k 46 x0) (slices_Concat__string x0) := .run _ _
noncomputable def slices_Concat__string_l0 [Dfr] (y0 : List (List ByteArray)) (y3 : Int) (y9 : List (List ByteArray)) (y10 : Int) (y11 : Int) : Option (Nat × (List (List ByteArray) × Int)) := lim fun k => lp E 46 0 k k (y0, y3, y9, y10, y11)
theorem slices_Concat__string_l0_lim [Dfr] (y0 : List (List ByteArray)) (y3 : Int) (y9 : List (List ByteArray)) (y10 : Int) (y11 : Int) : IsLim (fun k => lp E 46 0 k k (y0, y3, y9, y10, y11)) (slices_Concat__string_l0 y0 y3 y9 y10 y11) := .lp _ _ _
noncomputable def slices_Concat__string_l2 [Dfr] (y6 : List ByteArray) (y25 : List (List ByteArray)) (y26 : Int) (y27 : Int) : Option (Nat × List ByteArray) := lim fun k => lp E 46 2 k k (y6, y25, y26, y27)
theorem slices_Concat__string_l2_lim [Dfr] (y6 : List ByteArray) (y25 : List (List ByteArray)) (y26 : Int) (y27 : Int) : IsLim (fun k => lp E 46 2 k k (y6, y25, y26, y27)) (slices_Concat__string_l2 y6 y25 y26 y27) := .lp _ _ _
/-! redress/redressref02.Cat -/
noncomputable def ref02_Cat [Dfr] (x0 : List ByteArray) (x1 : List ByteArray) : Option (List ByteArray) := lim fun k => run E k 47 (x0, x1)
theorem ref02_Cat_lim [Dfr] (x0 : List ByteArray) (x1 : List ByteArray) : IsLim (fun k => run E k 47 (x0, x1)) (ref02_Cat x0 x1) := .run _ _
/-! slices.Compare[[]string,string] -/
noncomputable def slices_Compare__string [Dfr] (x0 : List ByteArray) (x1 : List ByteArray) : Option (Int) := lim fun k => run E k 50 (x0, x1)
theorem slices_Compare__string_lim [Dfr] (x0 : List ByteArray) (x1 : List ByteArray) : IsLim (fun k => run E k 50 (x0, x1)) (slices_Compare__string x0 x1) := .run _ _
noncomputable def slices_Compare__string_l0 [Dfr] (y0 : List ByteArray) (y1 : List ByteArray) (y4 : Int) (y9 : List ByteArray) (y10 : Int) (y11 : Int) : Option (Nat × (List ByteArray × List ByteArray × Int)) := lim fun k => lp E 50 0 k k (y0, y1, y4, y9, y10, y11)
theorem slices_Compare__string_l0_lim [Dfr] (y0 : List ByteArray) (y1 : List ByteArray) (y4 : Int) (y9 : List ByteArray) (y10 : Int) (y11 : Int) : IsLim (fun k => lp E 50 0 k k (y0, y1, y4, y9, y10, y11)) (slices_Compare__string_l0 y0 y1 y4 y9 y10 y11) := .lp _ _ _
/-! slices.Equal[[]string,string] -/
noncomputable def slices_Equal__string [Dfr] (x0 : List ByteArray) (x1 : List ByteArray) : Option (Bool) := lim fun k => run E k 52 (x0, x1)
theorem slices_Equal__string_lim [Dfr] (x0 : List ByteArray) (x1 : List ByteArray) : IsLim (fun k => run E k 52 (x0, x1)) (slices_Equal__string x0 x1) := .run _ _
noncomputable def slices_Equal__string_l0 [Dfr] (y0 : List ByteArray) (y1 : List ByteArray) (y4 : Bool) (y12 : Int) (y13 : Int) : Option (Nat × Bool) := lim fun k => lp E 52 0 k k (y0, y1, y4, y12, y13)
theorem slices_Equal__string_l0_lim [Dfr] (y0 : List ByteArray) (y1 : List ByteArray) (y4 : Bool) (y12 : Int) (y13 : Int) : IsLim (fun k => lp E 52 0 k k (y0, y1, y4, y12, y13)) (slices_Equal__string_l0 y0 y1 y4 y12 y13) := .lp _ _ _
/-! redress/sign.Both -/
noncomputable def sign_Both [Dfr] (x0 : Int) (x1 : Int) : Option (Int) := lim fun k => run E k 53 (x0, x1)
theorem sign_Both_lim [Dfr] (x0 : Int) (x1 : Int) : IsLim (fun k => run E k 53 (x0, x1)) (sign_Both x0 x1) := .run _ _
/-! redress/redressref02.mixed -/
noncomputable def ref02_mixed [Dfr] (x0 : List ByteArray) (x1 : List ByteArray) : Option (List (List ByteArray)) := lim fun k => run E k 54 (x0, x1)
theorem ref02_mixed_lim [Dfr] (x0 : List ByteArray) (x1 : List ByteArray) : IsLim (fun k => run E k 54 (x0, x1)) (ref02_mixed x0 x1) := .run _ _
/-! redress/redressref01.Both -/
noncomputable def ref01_Both [Dfr] (x0 : Int) (x1 : Int) : Option (Int) := lim fun k => run E k 55 (x0, x1)
theorem ref01_Both_lim [Dfr] (x0 : Int) (x1 : Int) : IsLim (fun k => run E k 55 (x0, x1)) (ref01_Both x0 x1) := .run _ _
/-! redress/sign.Text -/
noncomputable def sign_Text [Dfr] (x0 : Int) : Option (ByteArray) := lim fun k => run E k 56 x0
theorem sign_Text_lim [Dfr] (x0 : Int) : IsLim (fun k => run E k 56 x0) (sign_Text x0) := .run _ _
/-! redress/redressref01.Text -/
noncomputable def ref01_Text [Dfr] (x0 : Int) : Option (ByteArray) := lim fun k => run E k 57 x0
theorem ref01_Text_lim [Dfr] (x0 : Int) : IsLim (fun k => run E k 57 x0) (ref01_Text x0) := .run _ _
/-! cmp.Or[int] -/
noncomputable def cmp_Or__int [Dfr] (x0 : List Int) : Option (Int) := lim fun k => run E k 58 x0
theorem cmp_Or__int_lim [Dfr] (x0 : List Int) : IsLim (fun k => run E k 58 x0) (cmp_Or__int x0) := .run _ _
noncomputable def cmp_Or__int_l0 [Dfr] (y2 : Int) (y3 : Int) (y6 : List Int) (y7 : Int) (y8 : Int) : Option (Nat × (Int × Int)) := lim fun k => lp E 58 0 k k (y2, y3, y6, y7, y8)
theorem cmp_Or__int_l0_lim [Dfr] (y2 : Int) (y3 : Int) (y6 : List Int) (y7 : Int) (y8 : Int) : IsLim (fun k => lp E 58 0 k k (y2, y3, y6, y7, y8)) (cmp_Or__int_l0 y2 y3 y6 y7 y8) := .lp _ _ _
/-! cmp.Compare[int] -/
noncomputable def cmp_Compare__int [Dfr] (x0 : Int) (x1 : Int) : Option (Int) := lim fun k => run E k 59 (x0, x1)
theorem cmp_Compare__int_lim [Dfr] (x0 : Int) (x1 : Int) : IsLim (fun k => run E k 59 (x0, x1)) (cmp_Compare__int x0 x1) := .run _ _
/-! slices.Grow[[]redress/trace.Trace,redress/trace.Trace] -/
noncomputable def slices_Grow__trace_Trace [Dfr] (x0 : Unit) (x1 : Int) : Option (List Tc) := lim fun k => run E k 62 (x0, x1)
theorem slices_Grow__trace_Trace_lim [Dfr] (x0 : Unit) (x1 : Int) : IsLim (fun k => run E k 62 (x0, x1)) (slices_Grow__trace_Trace x0 x1) := .run _ _
/-! slices.IndexFunc[[]redress/trace.Trace,redress/trace.Trace] -/
noncomputable def slices_IndexFunc__trace_Trace [Dfr] (x0 : List Tc) (x1 : FnV) : Option (Int) := lim fun k => run E k 63 (x0, x1)
theorem slices_IndexFunc__trace_Trace_lim [Dfr] (x0 : List Tc) (x1 : FnV) : IsLim (fun k => run E k 63 (x0, x1)) (slices_IndexFunc__trace_Trace x0 x1) := .run _ _
noncomputable def slices_IndexFunc__trace_Trace_l0 [Dfr] (y0 : List Tc) (y1 : FnV) (y4 : Int) (y7 : Int) (y8 : Int) : Option (Nat × Int) := lim fun k => lp E 63 0 k k (y0, y1, y4, y7, y8)
theorem slices_IndexFunc__trace_Trace_l0_lim [Dfr] (y0 : List Tc) (y1 : FnV) (y4 : Int) (y7 : Int) (y8 : Int) : IsLim (fun k => lp E 63 0 k k (y0, y1, y4, y7, y8)) (slices_IndexFunc__trace_Trace_l0 y0 y1 y4 y7 y8) := .lp _ _ _
/-! slices.Grow[[]string,string] -/
noncomputable def slices_Grow__string [Dfr] (x0 : Unit) (x1 : Int) : Option (List ByteArray) := lim fun k => run E k 64 (x0, x1)
theorem slices_Grow__string_lim [Dfr] (x0 : Unit) (x1 : Int) : IsLim (fun k => run E k 64 (x0, x1)) (slices_Grow__string x0 x1) := .run _ _
/-! cmp.Compare[string] -/
noncomputable def cmp_Compare__string [Dfr] (x0 : ByteArray) (x1 : ByteArray) : Option (Int) := lim fun k => run E k 66 (x0, x1)
theorem cmp_Compare__string_lim [Dfr] (x0 : ByteArray) (x1 : ByteArray) : IsLim (fun k => run E k 66 (x0, x1)) (cmp_Compare__string x0 x1) := .run _ _
/-! redress/sign.Is -/
noncomputable def sign_Is [Dfr] (x0 : Int) : Option (Bool) := lim fun k => run E k 67 x0
theorem sign_Is_lim [Dfr] (x0 : Int) : IsLim (fun k => run E k 67 x0) (sign_Is x0) := .run _ _
/-! redress/redressref02.ahead -/
noncomputable def ref02_ahead [Dfr] (x0 : ByteArray) (x1 : List (List ByteArray)) : Option (List (List ByteArray)) := lim fun k => run E k 68 (x0, x1)
theorem ref02_ahead_lim [Dfr] (x0 : ByteArray) (x1 : List (List ByteArray)) : IsLim (fun k => run E k 68 (x0, x1)) (ref02_ahead x0 x1) := .run _ _
noncomputable def ref02_ahead_l0 [Dfr] (y0 : ByteArray) (y1 : List (List ByteArray)) (y5 : List (List ByteArray)) (y6 : Int) : Option (Nat × List (List ByteArray)) := lim fun k => lp E 68 0 k k (y0, y1, y5, y6)
theorem ref02_ahead_l0_lim [Dfr] (y0 : ByteArray) (y1 : List (List ByteArray)) (y5 : List (List ByteArray)) (y6 : Int) : IsLim (fun k => lp E 68 0 k k (y0, y1, y5, y6)) (ref02_ahead_l0 y0 y1 y5 y6) := .lp _ _ _
/-! redress/redressref01.Is -/
noncomputable def ref01_Is [Dfr] (x0 : Int) : Option (Bool) := lim fun k => run E k 69 x0
theorem ref01_Is_lim [Dfr] (x0 : Int) : IsLim (fun k => run E k 69 x0) (ref01_Is x0) := .run _ _
/-! redress/sign.texts -/
noncomputable def sign_texts [Dfr] : Option (ByteArray × ByteArray × ByteArray × ByteArray) := lim fun k => run E k 70 ()
theorem sign_texts_lim [Dfr] : IsLim (fun k => run E k 70 ()) (sign_texts) := .run _ _
/-! cmp.isNaN[int] -/
noncomputable def cmp_isNaN__int [Dfr] (x0 : Int) : Option (Bool) := lim fun k => run E k 71 x0
theorem cmp_isNaN__int_lim [Dfr] (x0 : Int) : IsLim (fun k => run E k 71 x0) (cmp_isNaN__int x0) := .run _ _
/-! cmp.isNaN[string] -/
noncomputable def cmp_isNaN__string [Dfr] (x0 : ByteArray) : Option (Bool) := lim fun k => run E k 90 x0
theorem cmp_isNaN__string_lim [Dfr] (x0 : ByteArray) : IsLim (fun k => run E k 90 x0) (cmp_isNaN__string x0) := .run _ _
end Go.Proofs.Ytmpdpboamnpnfaa.Sv
