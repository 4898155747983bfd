/- The functions of the seat by name, as the evaluator tells them: what each tells in the end, and its equation, checked by the kernel. Written by a program (gen.py, emit3.py). -/

import Derived.Test.YthhefjmdfdckjaaGreatDoorSvE
namespace Go.Proofs.YthhefjmdfdckjaaGreatDoor.Sv
open Go Go.Sv Go.Proofs
set_option linter.unusedVariables false
set_option maxRecDepth 100000
/-! redress/redresslaw08.RefuseMeans -/
noncomputable def law08_RefuseMeans [Dfr] (x0 : List Nd) (x1 : ByteArray) : Option (Bool) := lim fun k => run E k 3 (x0, x1)
theorem law08_RefuseMeans_lim [Dfr] (x0 : List Nd) (x1 : ByteArray) : IsLim (fun k => run E k 3 (x0, x1)) (law08_RefuseMeans x0 x1) := .run _ _
/-! redress/redresslaw08.RefuseTwice -/
noncomputable def law08_RefuseTwice [Dfr] (x0 : List Nd) (x1 : ByteArray) : Option (Bool) := lim fun k => run E k 4 (x0, x1)
theorem law08_RefuseTwice_lim [Dfr] (x0 : List Nd) (x1 : ByteArray) : IsLim (fun k => run E k 4 (x0, x1)) (law08_RefuseTwice x0 x1) := .run _ _
/-! redress/refuse.Rewrite -/
noncomputable def refuse_Rewrite [Dfr] (x0 : List Nd) (x1 : List ByteArray) : Option (List Nd) := lim fun k => run E k 5 (x0, x1)
theorem refuse_Rewrite_lim [Dfr] (x0 : List Nd) (x1 : List ByteArray) : IsLim (fun k => run E k 5 (x0, x1)) (refuse_Rewrite x0 x1) := .run _ _
noncomputable def refuse_Rewrite_l1000 [Dfr] (y0 : List Nd) (y1 : List ByteArray) (y4 : List Nd) (y5 : List Nd) (y6 : Int) : Option (Nat × List Nd) := lim fun k => sc E 5 0 k k (y0, y1, y4, y5, y6)
theorem refuse_Rewrite_l1000_lim [Dfr] (y0 : List Nd) (y1 : List ByteArray) (y4 : List Nd) (y5 : List Nd) (y6 : Int) : IsLim (fun k => sc E 5 0 k k (y0, y1, y4, y5, y6)) (refuse_Rewrite_l1000 y0 y1 y4 y5 y6) := .sc _ _ _
/-! redress/redresslaw08.few -/
noncomputable def law08_few [Dfr] (x0 : List Nd) : Option (Bool) := lim fun k => run E k 6 x0
theorem law08_few_lim [Dfr] (x0 : List Nd) : IsLim (fun k => run E k 6 x0) (law08_few x0) := .run _ _
/-! redress/sort.Term -/
noncomputable def sort_Term [Dfr] (x0 : List Nd) : Option (Bool) := lim fun k => run E k 7 x0
theorem sort_Term_lim [Dfr] (x0 : List Nd) : IsLim (fun k => run E k 7 x0) (sort_Term x0) := .run _ _
/-! redress/mean.Small -/
noncomputable def mean_Small [Dfr] (x0 : List Nd) : Option (Bool) := lim fun k => run E k 8 x0
theorem mean_Small_lim [Dfr] (x0 : List Nd) : IsLim (fun k => run E k 8 x0) (mean_Small x0) := .run _ _
/-! redress/redresslaw08.alive -/
noncomputable def law08_alive [Dfr] : Option (Bool) := lim fun k => run E k 9 ()
theorem law08_alive_lim [Dfr] : IsLim (fun k => run E k 9 ()) (law08_alive) := .run _ _
/-! redress/mean.Plain -/
noncomputable def mean_Plain [Dfr] (x0 : List Nd) : Option (List Tc × Int) := lim fun k => run E k 10 x0
theorem mean_Plain_lim [Dfr] (x0 : List Nd) : IsLim (fun k => run E k 10 x0) (mean_Plain x0) := .run _ _
/-! redress/redressref02.Or -/
noncomputable def ref02_Or [Dfr] (x0 : List Tc) (x1 : List Tc) : Option (List Tc) := lim fun k => run E k 11 (x0, x1)
theorem ref02_Or_lim [Dfr] (x0 : List Tc) (x1 : List Tc) : IsLim (fun k => run E k 11 (x0, x1)) (ref02_Or x0 x1) := .run _ _
/-! redress/redresslaw02.Olds -/
noncomputable def law02_Olds [Dfr] (x0 : List Tc) : Option (List Tc) := lim fun k => run E k 12 x0
theorem law02_Olds_lim [Dfr] (x0 : List Tc) : IsLim (fun k => run E k 12 x0) (law02_Olds x0) := .run _ _
noncomputable def law02_Olds_l0 [Dfr] (y3 : List Tc) (y6 : List Tc) (y7 : Int) (y8 : Int) : Option (Nat × List Tc) := lim fun k => lp E 12 0 k k (y3, y6, y7, y8)
theorem law02_Olds_l0_lim [Dfr] (y3 : List Tc) (y6 : List Tc) (y7 : Int) (y8 : Int) : IsLim (fun k => lp E 12 0 k k (y3, y6, y7, y8)) (law02_Olds_l0 y3 y6 y7 y8) := .lp _ _ _
/-! redress/redressref02.Same -/
noncomputable def ref02_Same [Dfr] (x0 : List Tc) (x1 : List Tc) : Option (Bool) := lim fun k => run E k 13 (x0, x1)
theorem ref02_Same_lim [Dfr] (x0 : List Tc) (x1 : List Tc) : IsLim (fun k => run E k 13 (x0, x1)) (ref02_Same x0 x1) := .run _ _
noncomputable def ref02_Same_l0 [Dfr] (y0 : List Tc) (y1 : List Tc) (y4 : Bool) (y5 : Int) : Option (Nat × Bool) := lim fun k => lp E 13 0 k k (y0, y1, y4, y5)
theorem ref02_Same_l0_lim [Dfr] (y0 : List Tc) (y1 : List Tc) (y4 : Bool) (y5 : Int) : IsLim (fun k => lp E 13 0 k k (y0, y1, y4, y5)) (ref02_Same_l0 y0 y1 y4 y5) := .lp _ _ _
/-! redress/refuse.Places -/
noncomputable def refuse_Places [Dfr] (x0 : List Nd) (x1 : ByteArray) : Option (List Int) := lim fun k => run E k 14 (x0, x1)
theorem refuse_Places_lim [Dfr] (x0 : List Nd) (x1 : ByteArray) : IsLim (fun k => run E k 14 (x0, x1)) (refuse_Places x0 x1) := .run _ _
noncomputable def refuse_Places_l0 [Dfr] (y1 : ByteArray) (y5 : List Int) (y8 : List Nd) (y9 : Int) (y10 : Int) : Option (Nat × List Int) := lim fun k => lp E 14 0 k k (y1, y5, y8, y9, y10)
theorem refuse_Places_l0_lim [Dfr] (y1 : ByteArray) (y5 : List Int) (y8 : List Nd) (y9 : Int) (y10 : Int) : IsLim (fun k => lp E 14 0 k k (y1, y5, y8, y9, y10)) (refuse_Places_l0 y1 y5 y8 y9 y10) := .lp _ _ _
/-! slices.Contains[[]string,string] -/
noncomputable def slices_Contains__string [Dfr] (x0 : List ByteArray) (x1 : ByteArray) : Option (Bool) := lim fun k => run E k 15 (x0, x1)
theorem slices_Contains__string_lim [Dfr] (x0 : List ByteArray) (x1 : ByteArray) : IsLim (fun k => run E k 15 (x0, x1)) (slices_Contains__string x0 x1) := .run _ _
/-! redress/refuse.refusable -/
noncomputable def refuse_refusable [Dfr] (x0 : Nd) : Option (List Nd) := lim fun k => run E k 16 x0
theorem refuse_refusable_lim [Dfr] (x0 : Nd) : IsLim (fun k => run E k 16 x0) (refuse_refusable x0) := .run _ _
/-! redress/redressref03.Depth -/
noncomputable def ref03_Depth [Dfr] (x0 : List Nd) : Option (Int) := lim fun k => run E k 17 x0
theorem ref03_Depth_lim [Dfr] (x0 : List Nd) : IsLim (fun k => run E k 17 x0) (ref03_Depth x0) := .run _ _
/-! redress/sort.Of -/
noncomputable def sort_Of [Dfr] (x0 : List Nd) : Option (Int) := lim fun k => run E k 18 x0
theorem sort_Of_lim [Dfr] (x0 : List Nd) : IsLim (fun k => run E k 18 x0) (sort_Of x0) := .run _ _
/-! redress/row.Count -/
noncomputable def row_Count [Dfr] (x0 : List Nd) (x1 : List Int) : Option (Int) := lim fun k => run E k 19 (x0, x1)
theorem row_Count_lim [Dfr] (x0 : List Nd) (x1 : List Int) : IsLim (fun k => run E k 19 (x0, x1)) (row_Count x0 x1) := .run _ _
noncomputable def row_Count_l0 [Dfr] (y1 : List Int) (y5 : Int) (y8 : List Nd) (y9 : Int) (y10 : Int) : Option (Nat × Int) := lim fun k => lp E 19 0 k k (y1, y5, y8, y9, y10)
theorem row_Count_l0_lim [Dfr] (y1 : List Int) (y5 : Int) (y8 : List Nd) (y9 : Int) (y10 : Int) : IsLim (fun k => lp E 19 0 k k (y1, y5, y8, y9, y10)) (row_Count_l0 y1 y5 y8 y9 y10) := .lp _ _ _
/-! redress/redressref03.Same -/
noncomputable def ref03_Same [Dfr] (x0 : List Nd) (x1 : List Nd) : Option (Bool) := lim fun k => run E k 20 (x0, x1)
theorem ref03_Same_lim [Dfr] (x0 : List Nd) (x1 : List Nd) : IsLim (fun k => run E k 20 (x0, x1)) (ref03_Same x0 x1) := .run _ _
noncomputable def ref03_Same_l0 [Dfr] (y0 : List Nd) (y1 : List Nd) (y4 : Bool) (y5 : Int) : Option (Nat × Bool) := lim fun k => lp E 20 0 k k (y0, y1, y4, y5)
theorem ref03_Same_l0_lim [Dfr] (y0 : List Nd) (y1 : List Nd) (y4 : Bool) (y5 : Int) : IsLim (fun k => lp E 20 0 k k (y0, y1, y4, y5)) (ref03_Same_l0 y0 y1 y4 y5) := .lp _ _ _
/-! redress/refuse.Mark -/
noncomputable def refuse_Mark [Dfr] (x0 : List Nd) (x1 : Int) : Option (List Nd) := lim fun k => run E k 21 (x0, x1)
theorem refuse_Mark_lim [Dfr] (x0 : List Nd) (x1 : Int) : IsLim (fun k => run E k 21 (x0, x1)) (refuse_Mark x0 x1) := .run _ _
/-! redress/refuse.Strip -/
noncomputable def refuse_Strip [Dfr] (x0 : List Nd) : Option (List Nd) := lim fun k => run E k 22 x0
theorem refuse_Strip_lim [Dfr] (x0 : List Nd) : IsLim (fun k => run E k 22 x0) (refuse_Strip x0) := .run _ _
noncomputable def refuse_Strip_l1000 [Dfr] (y0 : List Nd) (y2 : List Nd) (y3 : List Nd) (y4 : Int) : Option (Nat × List Nd) := lim fun k => sc E 22 0 k k (y0, y2, y3, y4)
theorem refuse_Strip_l1000_lim [Dfr] (y0 : List Nd) (y2 : List Nd) (y3 : List Nd) (y4 : Int) : IsLim (fun k => sc E 22 0 k k (y0, y2, y3, y4)) (refuse_Strip_l1000 y0 y2 y3 y4) := .sc _ _ _
/-! redress/mean.told[redress/trace.Trace] -/
noncomputable def mean_told__trace_Trace [Dfr] (x0 : List Nd) (x1 : Bool) (x2 : FnV) : Option (List Tc × Int) := lim fun k => run E k 23 (x0, x1, x2)
theorem mean_told__trace_Trace_lim [Dfr] (x0 : List Nd) (x1 : Bool) (x2 : FnV) : IsLim (fun k => run E k 23 (x0, x1, x2)) (mean_told__trace_Trace x0 x1 x2) := .run _ _
/-! redress/mean.plain -/
noncomputable def mean_plain [Dfr] (x0 : List Nd) : Option (List Tc) := lim fun k => run E k 24 x0
theorem mean_plain_lim [Dfr] (x0 : List Nd) : IsLim (fun k => run E k 24 x0) (mean_plain x0) := .run _ _
noncomputable def mean_plain_l1 [Dfr] (y4 : List Tc) (y93 : List (Tc × Tc)) (y94 : Int) (y95 : Int) : Option (Nat × List Tc) := lim fun k => lp E 24 1 k k (y4, y93, y94, y95)
theorem mean_plain_l1_lim [Dfr] (y4 : List Tc) (y93 : List (Tc × Tc)) (y94 : Int) (y95 : Int) : IsLim (fun k => lp E 24 1 k k (y4, y93, y94, y95)) (mean_plain_l1 y4 y93 y94 y95) := .lp _ _ _
/-! redress/redressref02.merge -/
noncomputable def ref02_merge [Dfr] (x0 : List Tc) (x1 : List Tc) : Option (List Tc) := lim fun k => run E k 25 (x0, x1)
theorem ref02_merge_lim [Dfr] (x0 : List Tc) (x1 : List Tc) : IsLim (fun k => run E k 25 (x0, x1)) (ref02_merge x0 x1) := .run _ _
noncomputable def ref02_merge_l0 [Dfr] (y0 : List Tc) (y1 : List Tc) (y5 : List Tc) (y6 : Int) (y7 : Int) : Option (Nat × List Tc) := lim fun k => lp E 25 0 k k (y0, y1, y5, y6, y7)
theorem ref02_merge_l0_lim [Dfr] (y0 : List Tc) (y1 : List Tc) (y5 : List Tc) (y6 : Int) (y7 : Int) : IsLim (fun k => lp E 25 0 k k (y0, y1, y5, y6, y7)) (ref02_merge_l0 y0 y1 y5 y6 y7) := .lp _ _ _
/-! redress/redressref02.Set -/
noncomputable def ref02_Set [Dfr] (x0 : List Tc) : Option (List Tc) := lim fun k => run E k 26 x0
theorem ref02_Set_lim [Dfr] (x0 : List Tc) : IsLim (fun k => run E k 26 x0) (ref02_Set x0) := .run _ _
/-! redress/redressref02.Compare -/
noncomputable def ref02_Compare [Dfr] (x0 : Tc) (x1 : Tc) : Option (Int) := lim fun k => run E k 27 (x0, x1)
theorem ref02_Compare_lim [Dfr] (x0 : Tc) (x1 : Tc) : IsLim (fun k => run E k 27 (x0, x1)) (ref02_Compare x0 x1) := .run _ _
/-! slices.Index[[]string,string] -/
noncomputable def slices_Index__string [Dfr] (x0 : List ByteArray) (x1 : ByteArray) : Option (Int) := lim fun k => run E k 28 (x0, x1)
theorem slices_Index__string_lim [Dfr] (x0 : List ByteArray) (x1 : ByteArray) : IsLim (fun k => run E k 28 (x0, x1)) (slices_Index__string x0 x1) := .run _ _
noncomputable def slices_Index__string_l0 [Dfr] (y0 : List ByteArray) (y1 : ByteArray) (y4 : Int) (y7 : Int) (y8 : Int) : Option (Nat × Int) := lim fun k => lp E 28 0 k k (y0, y1, y4, y7, y8)
theorem slices_Index__string_l0_lim [Dfr] (y0 : List ByteArray) (y1 : ByteArray) (y4 : Int) (y7 : Int) (y8 : Int) : IsLim (fun k => lp E 28 0 k k (y0, y1, y4, y7, y8)) (slices_Index__string_l0 y0 y1 y4 y7 y8) := .lp _ _ _
/-! redress/redressref03.Walk -/
noncomputable def ref03_Walk [Dfr] (x0 : List Nd) (x1 : Int) : Option (Int × Int) := lim fun k => run E k 29 (x0, x1)
theorem ref03_Walk_lim [Dfr] (x0 : List Nd) (x1 : Int) : IsLim (fun k => run E k 29 (x0, x1)) (ref03_Walk x0 x1) := .run _ _
noncomputable def ref03_Walk_l0 [Dfr] (y0 : List Nd) (y1 : Int) (y4 : Int) (y5 : Int) (y6 : Int) (y7 : Int) (y8 : Int) : Option (Nat × (Int × Int × Int × Int)) := lim fun k => lp E 29 0 k k (y0, y1, y4, y5, y6, y7, y8)
theorem ref03_Walk_l0_lim [Dfr] (y0 : List Nd) (y1 : Int) (y4 : Int) (y5 : Int) (y6 : Int) (y7 : Int) (y8 : Int) : IsLim (fun k => lp E 29 0 k k (y0, y1, y4, y5, y6, y7, y8)) (ref03_Walk_l0 y0 y1 y4 y5 y6 y7 y8) := .lp _ _ _
/-! redress/row.Whole -/
noncomputable def row_Whole [Dfr] (x0 : List Nd) : Option (Bool) := lim fun k => run E k 30 x0
theorem row_Whole_lim [Dfr] (x0 : List Nd) : IsLim (fun k => run E k 30 x0) (row_Whole x0) := .run _ _
/-! redress/sort.sort -/
noncomputable def sort_sort [Dfr] (x0 : List Nd) : Option (Int) := lim fun k => run E k 31 x0
theorem sort_sort_lim [Dfr] (x0 : List Nd) : IsLim (fun k => run E k 31 x0) (sort_sort x0) := .run _ _
noncomputable def sort_sort_l0 [Dfr] (y0 : List Nd) (y2 : Int) (y3 : List Int) (y8 : List (List Nd)) (y9 : Int) (y10 : Int) : Option (Nat × (List Nd × Int × List Int)) := lim fun k => lp E 31 0 k k (y0, y2, y3, y8, y9, y10)
theorem sort_sort_l0_lim [Dfr] (y0 : List Nd) (y2 : Int) (y3 : List Int) (y8 : List (List Nd)) (y9 : Int) (y10 : Int) : IsLim (fun k => lp E 31 0 k k (y0, y2, y3, y8, y9, y10)) (sort_sort_l0 y0 y2 y3 y8 y9 y10) := .lp _ _ _
/-! slices.Contains[[]int,int] -/
noncomputable def slices_Contains__int [Dfr] (x0 : List Int) (x1 : Int) : Option (Bool) := lim fun k => run E k 32 (x0, x1)
theorem slices_Contains__int_lim [Dfr] (x0 : List Int) (x1 : Int) : IsLim (fun k => run E k 32 (x0, x1)) (slices_Contains__int x0 x1) := .run _ _
/-! slices.Clone[[]redress/api.Node,redress/api.Node] -/
noncomputable def slices_Clone__api_Node [Dfr] (x0 : List Nd) : Option (List Nd) := lim fun k => run E k 33 x0
theorem slices_Clone__api_Node_lim [Dfr] (x0 : List Nd) : IsLim (fun k => run E k 33 x0) (slices_Clone__api_Node x0) := .run _ _
/-! slices.Concat[[]redress/api.Node,redress/api.Node] -/
noncomputable def slices_Concat__api_Node [Dfr] (x0 : List (List Nd)) : Option (List Nd) := lim fun k => run E k 34 x0
theorem slices_Concat__api_Node_lim [Dfr] (x0 : List (List Nd)) : IsLim (fun k => run E k 34 x0) (slices_Concat__api_Node x0) := .run _ _
noncomputable def slices_Concat__api_Node_l0 [Dfr] (y0 : List (List Nd)) (y3 : Int) (y9 : List (List Nd)) (y10 : Int) (y11 : Int) : Option (Nat × (List (List Nd) × Int)) := lim fun k => lp E 34 0 k k (y0, y3, y9, y10, y11)
theorem slices_Concat__api_Node_l0_lim [Dfr] (y0 : List (List Nd)) (y3 : Int) (y9 : List (List Nd)) (y10 : Int) (y11 : Int) : IsLim (fun k => lp E 34 0 k k (y0, y3, y9, y10, y11)) (slices_Concat__api_Node_l0 y0 y3 y9 y10 y11) := .lp _ _ _
noncomputable def slices_Concat__api_Node_l2 [Dfr] (y6 : List Nd) (y25 : List (List Nd)) (y26 : Int) (y27 : Int) : Option (Nat × List Nd) := lim fun k => lp E 34 2 k k (y6, y25, y26, y27)
theorem slices_Concat__api_Node_l2_lim [Dfr] (y6 : List Nd) (y25 : List (List Nd)) (y26 : Int) (y27 : Int) : IsLim (fun k => lp E 34 2 k k (y6, y25, y26, y27)) (slices_Concat__api_Node_l2 y6 y25 y26 y27) := .lp _ _ _
/-! slices.Equal[[]redress/api.Node,redress/api.Node] -/
noncomputable def slices_Equal__api_Node [Dfr] (x0 : List Nd) (x1 : List Nd) : Option (Bool) := lim fun k => run E k 35 (x0, x1)
theorem slices_Equal__api_Node_lim [Dfr] (x0 : List Nd) (x1 : List Nd) : IsLim (fun k => run E k 35 (x0, x1)) (slices_Equal__api_Node x0 x1) := .run _ _
noncomputable def slices_Equal__api_Node_l0 [Dfr] (y0 : List Nd) (y1 : List Nd) (y4 : Bool) (y12 : Int) (y13 : Int) : Option (Nat × Bool) := lim fun k => lp E 35 0 k k (y0, y1, y4, y12, y13)
theorem slices_Equal__api_Node_l0_lim [Dfr] (y0 : List Nd) (y1 : List Nd) (y4 : Bool) (y12 : Int) (y13 : Int) : IsLim (fun k => lp E 35 0 k k (y0, y1, y4, y12, y13)) (slices_Equal__api_Node_l0 y0 y1 y4 y12 y13) := .lp _ _ _
/-! redress/sort.On -/
noncomputable def sort_On [Dfr] (x0 : List Nd) (x1 : Bool) : Option (Bool) := lim fun k => run E k 36 (x0, x1)
theorem sort_On_lim [Dfr] (x0 : List Nd) (x1 : Bool) : IsLim (fun k => run E k 36 (x0, x1)) (sort_On x0 x1) := .run _ _
/-! redress/row.Kids -/
noncomputable def row_Kids [Dfr] (x0 : List Nd) : Option (List (List Nd)) := lim fun k => run E k 37 x0
theorem row_Kids_lim [Dfr] (x0 : List Nd) : IsLim (fun k => run E k 37 x0) (row_Kids x0) := .run _ _
noncomputable def row_Kids_l0 [Dfr] (y0 : List Nd) (y3 : List (List Nd)) (y4 : Int) (y13 : Int) (y14 : Int) : Option (Nat × List (List Nd)) := lim fun k => lp E 37 0 k k (y0, y3, y4, y13, y14)
theorem row_Kids_l0_lim [Dfr] (y0 : List Nd) (y3 : List (List Nd)) (y4 : Int) (y13 : Int) (y14 : Int) : IsLim (fun k => lp E 37 0 k k (y0, y3, y4, y13, y14)) (row_Kids_l0 y0 y3 y4 y13 y14) := .lp _ _ _
/-! redress/mean.ends -/
noncomputable def mean_ends [Dfr] (x0 : Int) : Option (Tc) := lim fun k => run E k 38 x0
theorem mean_ends_lim [Dfr] (x0 : Int) : IsLim (fun k => run E k 38 x0) (mean_ends x0) := .run _ _
/-! redress/mean.cross[redress/trace.Trace,redress/trace.Trace,redress/trace.Trace] -/
noncomputable def mean_cross__trace_Trace_trace_Trace_trace_Trace [Dfr] (x0 : List Tc) (x1 : List Tc) (x2 : FnV) : Option (List Tc) := lim fun k => run E k 39 (x0, x1, x2)
theorem mean_cross__trace_Trace_trace_Trace_trace_Trace_lim [Dfr] (x0 : List Tc) (x1 : List Tc) (x2 : FnV) : IsLim (fun k => run E k 39 (x0, x1, x2)) (mean_cross__trace_Trace_trace_Trace_trace_Trace x0 x1 x2) := .run _ _
noncomputable def mean_cross__trace_Trace_trace_Trace_trace_Trace_l2 [Dfr] (y1 : List Tc) (y2 : FnV) (y7 : List Tc) (y9 : Tc) (y12 : List Tc) (y13 : Int) (y14 : Int) (y18 : List Tc) (y19 : Int) (y20 : Int) : Option (Nat × (List Tc × FnV × List Tc × List Tc × Int × Int)) := lim fun k => lp E 39 2 k k (y1, y2, y7, y9, y12, y13, y14, y18, y19, y20)
theorem mean_cross__trace_Trace_trace_Trace_trace_Trace_l2_lim [Dfr] (y1 : List Tc) (y2 : FnV) (y7 : List Tc) (y9 : Tc) (y12 : List Tc) (y13 : Int) (y14 : Int) (y18 : List Tc) (y19 : Int) (y20 : Int) : IsLim (fun k => lp E 39 2 k k (y1, y2, y7, y9, y12, y13, y14, y18, y19, y20)) (mean_cross__trace_Trace_trace_Trace_trace_Trace_l2 y1 y2 y7 y9 y12 y13 y14 y18 y19 y20) := .lp _ _ _
noncomputable def mean_cross__trace_Trace_trace_Trace_trace_Trace_l0 [Dfr] (y1 : List Tc) (y2 : FnV) (y7 : List Tc) (y12 : List Tc) (y13 : Int) (y14 : Int) : Option (Nat × List Tc) := lim fun k => lp E 39 0 k k (y1, y2, y7, y12, y13, y14)
theorem mean_cross__trace_Trace_trace_Trace_trace_Trace_l0_lim [Dfr] (y1 : List Tc) (y2 : FnV) (y7 : List Tc) (y12 : List Tc) (y13 : Int) (y14 : Int) : IsLim (fun k => lp E 39 0 k k (y1, y2, y7, y12, y13, y14)) (mean_cross__trace_Trace_trace_Trace_trace_Trace_l0 y1 y2 y7 y12 y13 y14) := .lp _ _ _
/-! redress/mean.plain$1 -/
noncomputable def mean_plain_1 [Dfr] (x0 : Tc) (x1 : Tc) : Option (List Tc) := lim fun k => run E k 40 (x0, x1)
theorem mean_plain_1_lim [Dfr] (x0 : Tc) (x1 : Tc) : IsLim (fun k => run E k 40 (x0, x1)) (mean_plain_1 x0 x1) := .run _ _
/-! redress/trace.Then -/
noncomputable def trace_Then [Dfr] (x0 : Tc) (x1 : Tc) : Option (Tc) := lim fun k => run E k 41 (x0, x1)
theorem trace_Then_lim [Dfr] (x0 : Tc) (x1 : Tc) : IsLim (fun k => run E k 41 (x0, x1)) (trace_Then x0 x1) := .run _ _
/-! slices.Concat[[]redress/trace.Trace,redress/trace.Trace] -/
noncomputable def slices_Concat__trace_Trace [Dfr] (x0 : List (List Tc)) : Option (List Tc) := lim fun k => run E k 42 x0
theorem slices_Concat__trace_Trace_lim [Dfr] (x0 : List (List Tc)) : IsLim (fun k => run E k 42 x0) (slices_Concat__trace_Trace x0) := .run _ _
noncomputable def slices_Concat__trace_Trace_l0 [Dfr] (y0 : List (List Tc)) (y3 : Int) (y9 : List (List Tc)) (y10 : Int) (y11 : Int) : Option (Nat × (List (List Tc) × Int)) := lim fun k => lp E 42 0 k k (y0, y3, y9, y10, y11)
theorem slices_Concat__trace_Trace_l0_lim [Dfr] (y0 : List (List Tc)) (y3 : Int) (y9 : List (List Tc)) (y10 : Int) (y11 : Int) : IsLim (fun k => lp E 42 0 k k (y0, y3, y9, y10, y11)) (slices_Concat__trace_Trace_l0 y0 y3 y9 y10 y11) := .lp _ _ _
noncomputable def slices_Concat__trace_Trace_l2 [Dfr] (y6 : List Tc) (y25 : List (List Tc)) (y26 : Int) (y27 : Int) : Option (Nat × List Tc) := lim fun k => lp E 42 2 k k (y6, y25, y26, y27)
theorem slices_Concat__trace_Trace_l2_lim [Dfr] (y6 : List Tc) (y25 : List (List Tc)) (y26 : Int) (y27 : Int) : IsLim (fun k => lp E 42 2 k k (y6, y25, y26, y27)) (slices_Concat__trace_Trace_l2 y6 y25 y26 y27) := .lp _ _ _
/-! redress/trace.Par -/
noncomputable def trace_Par [Dfr] (x0 : Tc) (x1 : Tc) : Option (List Tc) := lim fun k => run E k 43 (x0, x1)
theorem trace_Par_lim [Dfr] (x0 : Tc) (x1 : Tc) : IsLim (fun k => run E k 43 (x0, x1)) (trace_Par x0 x1) := .run _ _
noncomputable def trace_Par_l0 [Dfr] (y5 : Int) (y6 : List Tc) (y18 : List (List ByteArray)) (y19 : Int) (y20 : Int) : Option (Nat × List Tc) := lim fun k => lp E 43 0 k k (y5, y6, y18, y19, y20)
theorem trace_Par_l0_lim [Dfr] (y5 : Int) (y6 : List Tc) (y18 : List (List ByteArray)) (y19 : Int) (y20 : Int) : IsLim (fun k => lp E 43 0 k k (y5, y6, y18, y19, y20)) (trace_Par_l0 y5 y6 y18 y19 y20) := .lp _ _ _
/-! redress/mean.plain$2 -/
noncomputable def mean_plain_2 [Dfr] (x0 : Tc) (x1 : Tc) : Option (List Tc) := lim fun k => run E k 44 (x0, x1)
theorem mean_plain_2_lim [Dfr] (x0 : Tc) (x1 : Tc) : IsLim (fun k => run E k 44 (x0, x1)) (mean_plain_2 x0 x1) := .run _ _
/-! redress/mean.behind -/
noncomputable def mean_behind [Dfr] (x0 : Tc) (x1 : Tc) : Option (Tc) := lim fun k => run E k 45 (x0, x1)
theorem mean_behind_lim [Dfr] (x0 : Tc) (x1 : Tc) : IsLim (fun k => run E k 45 (x0, x1)) (mean_behind x0 x1) := .run _ _
/-! redress/mean.paired -/
noncomputable def mean_paired [Dfr] (x0 : List Nd) : Option (List (Tc × Tc)) := lim fun k => run E k 46 x0
theorem mean_paired_lim [Dfr] (x0 : List Nd) : IsLim (fun k => run E k 46 x0) (mean_paired x0) := .run _ _
noncomputable def mean_paired_l1 [Dfr] (y0 : List Nd) (y4 : List (Tc × Tc)) (y90 : List Tc) (y91 : Int) (y92 : Int) : Option (Nat × (List (Tc × Tc))) := lim fun k => lp E 46 1 k k (y0, y4, y90, y91, y92)
theorem mean_paired_l1_lim [Dfr] (y0 : List Nd) (y4 : List (Tc × Tc)) (y90 : List Tc) (y91 : Int) (y92 : Int) : IsLim (fun k => lp E 46 1 k k (y0, y4, y90, y91, y92)) (mean_paired_l1 y0 y4 y90 y91 y92) := .lp _ _ _
/-! redress/trace.Set -/
noncomputable def trace_Set [Dfr] (x0 : List Tc) : Option (List Tc) := lim fun k => run E k 47 x0
theorem trace_Set_lim [Dfr] (x0 : List Tc) : IsLim (fun k => run E k 47 x0) (trace_Set x0) := .run _ _
/-! redress/redressref02.Row -/
noncomputable def ref02_Row [Dfr] (x0 : List ByteArray) (x1 : List ByteArray) : Option (Int) := lim fun k => run E k 48 (x0, x1)
theorem ref02_Row_lim [Dfr] (x0 : List ByteArray) (x1 : List ByteArray) : IsLim (fun k => run E k 48 (x0, x1)) (ref02_Row x0 x1) := .run _ _
noncomputable def ref02_Row_l0 [Dfr] (y0 : List ByteArray) (y1 : List ByteArray) (y4 : Int) (y5 : Int) : Option (Nat × (List ByteArray × List ByteArray × Int)) := lim fun k => lp E 48 0 k k (y0, y1, y4, y5)
theorem ref02_Row_l0_lim [Dfr] (y0 : List ByteArray) (y1 : List ByteArray) (y4 : Int) (y5 : Int) : IsLim (fun k => lp E 48 0 k k (y0, y1, y4, y5)) (ref02_Row_l0 y0 y1 y4 y5) := .lp _ _ _
/-! redress/redressref03.Arity -/
noncomputable def ref03_Arity [Dfr] (x0 : Int) : Option (Int) := lim fun k => run E k 49 x0
theorem ref03_Arity_lim [Dfr] (x0 : Int) : IsLim (fun k => run E k 49 x0) (ref03_Arity x0) := .run _ _
/-! redress/row.Whole$1 -/
noncomputable def row_Whole_1 [Dfr] (x0 : Nd) : Option (Bool) := lim fun k => run E k 50 x0
theorem row_Whole_1_lim [Dfr] (x0 : Nd) : IsLim (fun k => run E k 50 x0) (row_Whole_1 x0) := .run _ _
/-! redress/row.Right -/
noncomputable def row_Right [Dfr] (x0 : Nd) : Option (Bool) := lim fun k => run E k 51 x0
theorem row_Right_lim [Dfr] (x0 : Nd) : IsLim (fun k => run E k 51 x0) (row_Right x0) := .run _ _
/-! slices.ContainsFunc[[]redress/api.Node,redress/api.Node] -/
noncomputable def slices_ContainsFunc__api_Node [Dfr] (x0 : List Nd) (x1 : FnV) : Option (Bool) := lim fun k => run E k 52 (x0, x1)
theorem slices_ContainsFunc__api_Node_lim [Dfr] (x0 : List Nd) (x1 : FnV) : IsLim (fun k => run E k 52 (x0, x1)) (slices_ContainsFunc__api_Node x0 x1) := .run _ _
/-! redress/row.Size -/
noncomputable def row_Size [Dfr] (x0 : List Nd) : Option (Int) := lim fun k => run E k 53 x0
theorem row_Size_lim [Dfr] (x0 : List Nd) : IsLim (fun k => run E k 53 x0) (row_Size x0) := .run _ _
noncomputable def row_Size_l0 [Dfr] (y2 : Int) (y3 : Int) (y7 : List Nd) (y8 : Int) (y9 : Int) : Option (Nat × Int) := lim fun k => lp E 53 0 k k (y2, y3, y7, y8, y9)
theorem row_Size_l0_lim [Dfr] (y2 : Int) (y3 : Int) (y7 : List Nd) (y8 : Int) (y9 : Int) : IsLim (fun k => lp E 53 0 k k (y2, y3, y7, y8, y9)) (row_Size_l0 y2 y3 y7 y8 y9) := .lp _ _ _
/-! redress/sort.both -/
noncomputable def sort_both [Dfr] (x0 : Int) (x1 : Int) : Option (Int) := lim fun k => run E k 54 (x0, x1)
theorem sort_both_lim [Dfr] (x0 : Int) (x1 : Int) : IsLim (fun k => run E k 54 (x0, x1)) (sort_both x0 x1) := .run _ _
/-! redress/sort.behind -/
noncomputable def sort_behind [Dfr] (x0 : Int) (x1 : Int) (x2 : Int) : Option (Int) := lim fun k => run E k 55 (x0, x1, x2)
theorem sort_behind_lim [Dfr] (x0 : Int) (x1 : Int) (x2 : Int) : IsLim (fun k => run E k 55 (x0, x1, x2)) (sort_behind x0 x1 x2) := .run _ _
/-! redress/sort.on -/
noncomputable def sort_on [Dfr] (x0 : Int) : Option (Int) := lim fun k => run E k 56 x0
theorem sort_on_lim [Dfr] (x0 : Int) : IsLim (fun k => run E k 56 x0) (sort_on x0) := .run _ _
/-! slices.Index[[]int,int] -/
noncomputable def slices_Index__int [Dfr] (x0 : List Int) (x1 : Int) : Option (Int) := lim fun k => run E k 57 (x0, x1)
theorem slices_Index__int_lim [Dfr] (x0 : List Int) (x1 : Int) : IsLim (fun k => run E k 57 (x0, x1)) (slices_Index__int x0 x1) := .run _ _
noncomputable def slices_Index__int_l0 [Dfr] (y0 : List Int) (y1 : Int) (y4 : Int) (y7 : Int) (y8 : Int) : Option (Nat × Int) := lim fun k => lp E 57 0 k k (y0, y1, y4, y7, y8)
theorem slices_Index__int_l0_lim [Dfr] (y0 : List Int) (y1 : Int) (y4 : Int) (y7 : Int) (y8 : Int) : IsLim (fun k => lp E 57 0 k k (y0, y1, y4, y7, y8)) (slices_Index__int_l0 y0 y1 y4 y7 y8) := .lp _ _ _
/-! slices.Grow[[]redress/api.Node,redress/api.Node] -/
noncomputable def slices_Grow__api_Node [Dfr] (x0 : Unit) (x1 : Int) : Option (List Nd) := lim fun k => run E k 58 (x0, x1)
theorem slices_Grow__api_Node_lim [Dfr] (x0 : Unit) (x1 : Int) : IsLim (fun k => run E k 58 (x0, x1)) (slices_Grow__api_Node x0 x1) := .run _ _
/-! redress/row.Arity -/
noncomputable def row_Arity [Dfr] (x0 : Int) : Option (Int) := lim fun k => run E k 59 x0
theorem row_Arity_lim [Dfr] (x0 : Int) : IsLim (fun k => run E k 59 x0) (row_Arity x0) := .run _ _
/-! slices.Clone[[]string,string] -/
noncomputable def slices_Clone__string [Dfr] (x0 : List ByteArray) : Option (List ByteArray) := lim fun k => run E k 60 x0
theorem slices_Clone__string_lim [Dfr] (x0 : List ByteArray) : IsLim (fun k => run E k 60 x0) (slices_Clone__string x0) := .run _ _
/-! slices.Concat[[]string,string] -/
noncomputable def slices_Concat__string [Dfr] (x0 : List (List ByteArray)) : Option (List ByteArray) := lim fun k => run E k 61 x0
theorem slices_Concat__string_lim [Dfr] (x0 : List (List ByteArray)) : IsLim (fun k => run E k 61 x0) (slices_Concat__string x0) := .run _ _
noncomputable def slices_Concat__string_l0 [Dfr] (y0 : List (List ByteArray)) (y3 : Int) (y9 : List (List ByteArray)) (y10 : Int) (y11 : Int) : Option (Nat × (List (List ByteArray) × Int)) := lim fun k => lp E 61 0 k k (y0, y3, y9, y10, y11)
theorem slices_Concat__string_l0_lim [Dfr] (y0 : List (List ByteArray)) (y3 : Int) (y9 : List (List ByteArray)) (y10 : Int) (y11 : Int) : IsLim (fun k => lp E 61 0 k k (y0, y3, y9, y10, y11)) (slices_Concat__string_l0 y0 y3 y9 y10 y11) := .lp _ _ _
noncomputable def slices_Concat__string_l2 [Dfr] (y6 : List ByteArray) (y25 : List (List ByteArray)) (y26 : Int) (y27 : Int) : Option (Nat × List ByteArray) := lim fun k => lp E 61 2 k k (y6, y25, y26, y27)
theorem slices_Concat__string_l2_lim [Dfr] (y6 : List ByteArray) (y25 : List (List ByteArray)) (y26 : Int) (y27 : Int) : IsLim (fun k => lp E 61 2 k k (y6, y25, y26, y27)) (slices_Concat__string_l2 y6 y25 y26 y27) := .lp _ _ _
/-! slices.Grow[[]redress/trace.Trace,redress/trace.Trace] -/
noncomputable def slices_Grow__trace_Trace [Dfr] (x0 : Unit) (x1 : Int) : Option (List Tc) := lim fun k => run E k 62 (x0, x1)
theorem slices_Grow__trace_Trace_lim [Dfr] (x0 : Unit) (x1 : Int) : IsLim (fun k => run E k 62 (x0, x1)) (slices_Grow__trace_Trace x0 x1) := .run _ _
/-! redress/sign.Both -/
noncomputable def sign_Both [Dfr] (x0 : Int) (x1 : Int) : Option (Int) := lim fun k => run E k 63 (x0, x1)
theorem sign_Both_lim [Dfr] (x0 : Int) (x1 : Int) : IsLim (fun k => run E k 63 (x0, x1)) (sign_Both x0 x1) := .run _ _
/-! redress/trace.Mix -/
noncomputable def trace_Mix [Dfr] (x0 : List ByteArray) (x1 : List ByteArray) : Option (List (List ByteArray)) := lim fun k => run E k 64 (x0, x1)
theorem trace_Mix_lim [Dfr] (x0 : List ByteArray) (x1 : List ByteArray) : IsLim (fun k => run E k 64 (x0, x1)) (trace_Mix x0 x1) := .run _ _
/-! redress/mean.going -/
noncomputable def mean_going [Dfr] (x0 : List Tc) (x1 : List Tc) : Option (List (Tc × Tc)) := lim fun k => run E k 65 (x0, x1)
theorem mean_going_lim [Dfr] (x0 : List Tc) (x1 : List Tc) : IsLim (fun k => run E k 65 (x0, x1)) (mean_going x0 x1) := .run _ _
/-! redress/mean.cross[redress/mean.Pair,redress/mean.Pair,redress/mean.Pair] -/
noncomputable def mean_cross__mean_Pair_mean_Pair_mean_Pair [Dfr] (x0 : List (Tc × Tc)) (x1 : List (Tc × Tc)) (x2 : FnV) : Option (List (Tc × Tc)) := lim fun k => run E k 66 (x0, x1, x2)
theorem mean_cross__mean_Pair_mean_Pair_mean_Pair_lim [Dfr] (x0 : List (Tc × Tc)) (x1 : List (Tc × Tc)) (x2 : FnV) : IsLim (fun k => run E k 66 (x0, x1, x2)) (mean_cross__mean_Pair_mean_Pair_mean_Pair x0 x1 x2) := .run _ _
noncomputable def mean_cross__mean_Pair_mean_Pair_mean_Pair_l2 [Dfr] (y1 : List (Tc × Tc)) (y2 : FnV) (y7 : List (Tc × Tc)) (y9 : Tc × Tc) (y12 : List (Tc × Tc)) (y13 : Int) (y14 : Int) (y18 : List (Tc × Tc)) (y19 : Int) (y20 : Int) : Option (Nat × ((List (Tc × Tc)) × FnV × (List (Tc × Tc)) × (List (Tc × Tc)) × Int × Int)) := lim fun k => lp E 66 2 k k (y1, y2, y7, y9, y12, y13, y14, y18, y19, y20)
theorem mean_cross__mean_Pair_mean_Pair_mean_Pair_l2_lim [Dfr] (y1 : List (Tc × Tc)) (y2 : FnV) (y7 : List (Tc × Tc)) (y9 : Tc × Tc) (y12 : List (Tc × Tc)) (y13 : Int) (y14 : Int) (y18 : List (Tc × Tc)) (y19 : Int) (y20 : Int) : IsLim (fun k => lp E 66 2 k k (y1, y2, y7, y9, y12, y13, y14, y18, y19, y20)) (mean_cross__mean_Pair_mean_Pair_mean_Pair_l2 y1 y2 y7 y9 y12 y13 y14 y18 y19 y20) := .lp _ _ _
noncomputable def mean_cross__mean_Pair_mean_Pair_mean_Pair_l0 [Dfr] (y1 : List (Tc × Tc)) (y2 : FnV) (y7 : List (Tc × Tc)) (y12 : List (Tc × Tc)) (y13 : Int) (y14 : Int) : Option (Nat × (List (Tc × Tc))) := lim fun k => lp E 66 0 k k (y1, y2, y7, y12, y13, y14)
theorem mean_cross__mean_Pair_mean_Pair_mean_Pair_l0_lim [Dfr] (y1 : List (Tc × Tc)) (y2 : FnV) (y7 : List (Tc × Tc)) (y12 : List (Tc × Tc)) (y13 : Int) (y14 : Int) : IsLim (fun k => lp E 66 0 k k (y1, y2, y7, y12, y13, y14)) (mean_cross__mean_Pair_mean_Pair_mean_Pair_l0 y1 y2 y7 y12 y13 y14) := .lp _ _ _
/-! redress/mean.paired$1 -/
noncomputable def mean_paired_1 [Dfr] (x0 : Tc × Tc) (x1 : Tc × Tc) : Option (List (Tc × Tc)) := lim fun k => run E k 67 (x0, x1)
theorem mean_paired_1_lim [Dfr] (x0 : Tc × Tc) (x1 : Tc × Tc) : IsLim (fun k => run E k 67 (x0, x1)) (mean_paired_1 x0 x1) := .run _ _
/-! slices.Concat[[]redress/mean.Pair,redress/mean.Pair] -/
noncomputable def slices_Concat__mean_Pair [Dfr] (x0 : List (List (Tc × Tc))) : Option (List (Tc × Tc)) := lim fun k => run E k 68 x0
theorem slices_Concat__mean_Pair_lim [Dfr] (x0 : List (List (Tc × Tc))) : IsLim (fun k => run E k 68 x0) (slices_Concat__mean_Pair x0) := .run _ _
noncomputable def slices_Concat__mean_Pair_l0 [Dfr] (y0 : List (List (Tc × Tc))) (y3 : Int) (y9 : List (List (Tc × Tc))) (y10 : Int) (y11 : Int) : Option (Nat × ((List (List (Tc × Tc))) × Int)) := lim fun k => lp E 68 0 k k (y0, y3, y9, y10, y11)
theorem slices_Concat__mean_Pair_l0_lim [Dfr] (y0 : List (List (Tc × Tc))) (y3 : Int) (y9 : List (List (Tc × Tc))) (y10 : Int) (y11 : Int) : IsLim (fun k => lp E 68 0 k k (y0, y3, y9, y10, y11)) (slices_Concat__mean_Pair_l0 y0 y3 y9 y10 y11) := .lp _ _ _
noncomputable def slices_Concat__mean_Pair_l2 [Dfr] (y6 : List (Tc × Tc)) (y25 : List (List (Tc × Tc))) (y26 : Int) (y27 : Int) : Option (Nat × (List (Tc × Tc))) := lim fun k => lp E 68 2 k k (y6, y25, y26, y27)
theorem slices_Concat__mean_Pair_l2_lim [Dfr] (y6 : List (Tc × Tc)) (y25 : List (List (Tc × Tc))) (y26 : Int) (y27 : Int) : IsLim (fun k => lp E 68 2 k k (y6, y25, y26, y27)) (slices_Concat__mean_Pair_l2 y6 y25 y26 y27) := .lp _ _ _
/-! redress/mean.paired$2 -/
noncomputable def mean_paired_2 [Dfr] (x0 : Tc × Tc) (x1 : Tc × Tc) : Option (List (Tc × Tc)) := lim fun k => run E k 69 (x0, x1)
theorem mean_paired_2_lim [Dfr] (x0 : Tc × Tc) (x1 : Tc × Tc) : IsLim (fun k => run E k 69 (x0, x1)) (mean_paired_2 x0 x1) := .run _ _
/-! redress/mean.cross[redress/trace.Trace,redress/trace.Trace,redress/mean.Pair] -/
noncomputable def mean_cross__trace_Trace_trace_Trace_mean_Pair [Dfr] (x0 : List Tc) (x1 : List Tc) (x2 : FnV) : Option (List (Tc × Tc)) := lim fun k => run E k 70 (x0, x1, x2)
theorem mean_cross__trace_Trace_trace_Trace_mean_Pair_lim [Dfr] (x0 : List Tc) (x1 : List Tc) (x2 : FnV) : IsLim (fun k => run E k 70 (x0, x1, x2)) (mean_cross__trace_Trace_trace_Trace_mean_Pair x0 x1 x2) := .run _ _
noncomputable def mean_cross__trace_Trace_trace_Trace_mean_Pair_l2 [Dfr] (y1 : List Tc) (y2 : FnV) (y7 : List (Tc × Tc)) (y9 : Tc) (y12 : List Tc) (y13 : Int) (y14 : Int) (y18 : List Tc) (y19 : Int) (y20 : Int) : Option (Nat × (List Tc × FnV × (List (Tc × Tc)) × List Tc × Int × Int)) := lim fun k => lp E 70 2 k k (y1, y2, y7, y9, y12, y13, y14, y18, y19, y20)
theorem mean_cross__trace_Trace_trace_Trace_mean_Pair_l2_lim [Dfr] (y1 : List Tc) (y2 : FnV) (y7 : List (Tc × Tc)) (y9 : Tc) (y12 : List Tc) (y13 : Int) (y14 : Int) (y18 : List Tc) (y19 : Int) (y20 : Int) : IsLim (fun k => lp E 70 2 k k (y1, y2, y7, y9, y12, y13, y14, y18, y19, y20)) (mean_cross__trace_Trace_trace_Trace_mean_Pair_l2 y1 y2 y7 y9 y12 y13 y14 y18 y19 y20) := .lp _ _ _
noncomputable def mean_cross__trace_Trace_trace_Trace_mean_Pair_l0 [Dfr] (y1 : List Tc) (y2 : FnV) (y7 : List (Tc × Tc)) (y12 : List Tc) (y13 : Int) (y14 : Int) : Option (Nat × (List (Tc × Tc))) := lim fun k => lp E 70 0 k k (y1, y2, y7, y12, y13, y14)
theorem mean_cross__trace_Trace_trace_Trace_mean_Pair_l0_lim [Dfr] (y1 : List Tc) (y2 : FnV) (y7 : List (Tc × Tc)) (y12 : List Tc) (y13 : Int) (y14 : Int) : IsLim (fun k => lp E 70 0 k k (y1, y2, y7, y12, y13, y14)) (mean_cross__trace_Trace_trace_Trace_mean_Pair_l0 y1 y2 y7 y12 y13 y14) := .lp _ _ _
/-! redress/mean.paired$2$1 -/
noncomputable def mean_paired_2_1 [Dfr] (x0 : Tc) (x1 : Tc) : Option (List (Tc × Tc)) := lim fun k => run E k 71 (x0, x1)
theorem mean_paired_2_1_lim [Dfr] (x0 : Tc) (x1 : Tc) : IsLim (fun k => run E k 71 (x0, x1)) (mean_paired_2_1 x0 x1) := .run _ _
/-! redress/mean.cross[redress/mean.Pair,redress/trace.Trace,redress/mean.Pair] -/
noncomputable def mean_cross__mean_Pair_trace_Trace_mean_Pair [Dfr] (x0 : List (Tc × Tc)) (x1 : List Tc) (x2 : FnV) : Option (List (Tc × Tc)) := lim fun k => run E k 72 (x0, x1, x2)
theorem mean_cross__mean_Pair_trace_Trace_mean_Pair_lim [Dfr] (x0 : List (Tc × Tc)) (x1 : List Tc) (x2 : FnV) : IsLim (fun k => run E k 72 (x0, x1, x2)) (mean_cross__mean_Pair_trace_Trace_mean_Pair x0 x1 x2) := .run _ _
noncomputable def mean_cross__mean_Pair_trace_Trace_mean_Pair_l2 [Dfr] (y1 : List Tc) (y2 : FnV) (y7 : List (Tc × Tc)) (y9 : Tc × Tc) (y12 : List (Tc × Tc)) (y13 : Int) (y14 : Int) (y18 : List Tc) (y19 : Int) (y20 : Int) : Option (Nat × (List Tc × FnV × (List (Tc × Tc)) × (List (Tc × Tc)) × Int × Int)) := lim fun k => lp E 72 2 k k (y1, y2, y7, y9, y12, y13, y14, y18, y19, y20)
theorem mean_cross__mean_Pair_trace_Trace_mean_Pair_l2_lim [Dfr] (y1 : List Tc) (y2 : FnV) (y7 : List (Tc × Tc)) (y9 : Tc × Tc) (y12 : List (Tc × Tc)) (y13 : Int) (y14 : Int) (y18 : List Tc) (y19 : Int) (y20 : Int) : IsLim (fun k => lp E 72 2 k k (y1, y2, y7, y9, y12, y13, y14, y18, y19, y20)) (mean_cross__mean_Pair_trace_Trace_mean_Pair_l2 y1 y2 y7 y9 y12 y13 y14 y18 y19 y20) := .lp _ _ _
noncomputable def mean_cross__mean_Pair_trace_Trace_mean_Pair_l0 [Dfr] (y1 : List Tc) (y2 : FnV) (y7 : List (Tc × Tc)) (y12 : List (Tc × Tc)) (y13 : Int) (y14 : Int) : Option (Nat × (List (Tc × Tc))) := lim fun k => lp E 72 0 k k (y1, y2, y7, y12, y13, y14)
theorem mean_cross__mean_Pair_trace_Trace_mean_Pair_l0_lim [Dfr] (y1 : List Tc) (y2 : FnV) (y7 : List (Tc × Tc)) (y12 : List (Tc × Tc)) (y13 : Int) (y14 : Int) : IsLim (fun k => lp E 72 0 k k (y1, y2, y7, y12, y13, y14)) (mean_cross__mean_Pair_trace_Trace_mean_Pair_l0 y1 y2 y7 y12 y13 y14) := .lp _ _ _
/-! redress/mean.paired$3 -/
noncomputable def mean_paired_3 [Dfr] (x0 : Tc × Tc) (x1 : Tc) : Option (List (Tc × Tc)) := lim fun k => run E k 73 (x0, x1)
theorem mean_paired_3_lim [Dfr] (x0 : Tc × Tc) (x1 : Tc) : IsLim (fun k => run E k 73 (x0, x1)) (mean_paired_3 x0 x1) := .run _ _
/-! redress/mean.set -/
noncomputable def mean_set [Dfr] (x0 : List (Tc × Tc)) : Option (List (Tc × Tc)) := lim fun k => run E k 74 x0
theorem mean_set_lim [Dfr] (x0 : List (Tc × Tc)) : IsLim (fun k => run E k 74 x0) (mean_set x0) := .run _ _
/-! slices.Clone[[]redress/trace.Trace,redress/trace.Trace] -/
noncomputable def slices_Clone__trace_Trace [Dfr] (x0 : List Tc) : Option (List Tc) := lim fun k => run E k 75 x0
theorem slices_Clone__trace_Trace_lim [Dfr] (x0 : List Tc) : IsLim (fun k => run E k 75 x0) (slices_Clone__trace_Trace x0) := .run _ _
/-! (redress/trace.Trace).compare -/
noncomputable def trace_Trace_compare [Dfr] (x0 : Tc) (x1 : Tc) : Option (Int) := lim fun k => run E k 77 (x0, x1)
theorem trace_Trace_compare_lim [Dfr] (x0 : Tc) (x1 : Tc) : IsLim (fun k => run E k 77 (x0, x1)) (trace_Trace_compare x0 x1) := .run _ _
/-! redress/trace.Set$1 -/
noncomputable def trace_Set_1 [Dfr] (x0 : Tc) (x1 : Tc) : Option (Bool) := lim fun k => run E k 79 (x0, x1)
theorem trace_Set_1_lim [Dfr] (x0 : Tc) (x1 : Tc) : IsLim (fun k => run E k 79 (x0, x1)) (trace_Set_1 x0 x1) := .run _ _
/-! redress/row.named -/
noncomputable def row_named [Dfr] (x0 : ByteArray) : Option (Bool) := lim fun k => run E k 80 x0
theorem row_named_lim [Dfr] (x0 : ByteArray) : IsLim (fun k => run E k 80 x0) (row_named x0) := .run _ _
/-! slices.IndexFunc[[]redress/api.Node,redress/api.Node] -/
noncomputable def slices_IndexFunc__api_Node [Dfr] (x0 : List Nd) (x1 : FnV) : Option (Int) := lim fun k => run E k 81 (x0, x1)
theorem slices_IndexFunc__api_Node_lim [Dfr] (x0 : List Nd) (x1 : FnV) : IsLim (fun k => run E k 81 (x0, x1)) (slices_IndexFunc__api_Node x0 x1) := .run _ _
noncomputable def slices_IndexFunc__api_Node_l0 [Dfr] (y0 : List Nd) (y1 : FnV) (y4 : Int) (y7 : Int) (y8 : Int) : Option (Nat × Int) := lim fun k => lp E 81 0 k k (y0, y1, y4, y7, y8)
theorem slices_IndexFunc__api_Node_l0_lim [Dfr] (y0 : List Nd) (y1 : FnV) (y4 : Int) (y7 : Int) (y8 : Int) : IsLim (fun k => lp E 81 0 k k (y0, y1, y4, y7, y8)) (slices_IndexFunc__api_Node_l0 y0 y1 y4 y7 y8) := .lp _ _ _
/-! slices.Grow[[]string,string] -/
noncomputable def slices_Grow__string [Dfr] (x0 : Unit) (x1 : Int) : Option (List ByteArray) := lim fun k => run E k 82 (x0, x1)
theorem slices_Grow__string_lim [Dfr] (x0 : Unit) (x1 : Int) : IsLim (fun k => run E k 82 (x0, x1)) (slices_Grow__string x0 x1) := .run _ _
/-! redress/sign.Is -/
noncomputable def sign_Is [Dfr] (x0 : Int) : Option (Bool) := lim fun k => run E k 83 x0
theorem sign_Is_lim [Dfr] (x0 : Int) : IsLim (fun k => run E k 83 x0) (sign_Is x0) := .run _ _
/-! slices.Compare[[]string,string] -/
noncomputable def slices_Compare__string [Dfr] (x0 : List ByteArray) (x1 : List ByteArray) : Option (Int) := lim fun k => run E k 86 (x0, x1)
theorem slices_Compare__string_lim [Dfr] (x0 : List ByteArray) (x1 : List ByteArray) : IsLim (fun k => run E k 86 (x0, x1)) (slices_Compare__string x0 x1) := .run _ _
noncomputable def slices_Compare__string_l0 [Dfr] (y0 : List ByteArray) (y1 : List ByteArray) (y4 : Int) (y9 : List ByteArray) (y10 : Int) (y11 : Int) : Option (Nat × (List ByteArray × List ByteArray × Int)) := lim fun k => lp E 86 0 k k (y0, y1, y4, y9, y10, y11)
theorem slices_Compare__string_l0_lim [Dfr] (y0 : List ByteArray) (y1 : List ByteArray) (y4 : Int) (y9 : List ByteArray) (y10 : Int) (y11 : Int) : IsLim (fun k => lp E 86 0 k k (y0, y1, y4, y9, y10, y11)) (slices_Compare__string_l0 y0 y1 y4 y9 y10 y11) := .lp _ _ _
/-! slices.Equal[[]string,string] -/
noncomputable def slices_Equal__string [Dfr] (x0 : List ByteArray) (x1 : List ByteArray) : Option (Bool) := lim fun k => run E k 88 (x0, x1)
theorem slices_Equal__string_lim [Dfr] (x0 : List ByteArray) (x1 : List ByteArray) : IsLim (fun k => run E k 88 (x0, x1)) (slices_Equal__string x0 x1) := .run _ _
noncomputable def slices_Equal__string_l0 [Dfr] (y0 : List ByteArray) (y1 : List ByteArray) (y4 : Bool) (y12 : Int) (y13 : Int) : Option (Nat × Bool) := lim fun k => lp E 88 0 k k (y0, y1, y4, y12, y13)
theorem slices_Equal__string_l0_lim [Dfr] (y0 : List ByteArray) (y1 : List ByteArray) (y4 : Bool) (y12 : Int) (y13 : Int) : IsLim (fun k => lp E 88 0 k k (y0, y1, y4, y12, y13)) (slices_Equal__string_l0 y0 y1 y4 y12 y13) := .lp _ _ _
/-! redress/mean.going$1 -/
noncomputable def mean_going_1 [Dfr] (x0 : Tc) (x1 : Tc) : Option (List (Tc × Tc)) := lim fun k => run E k 89 (x0, x1)
theorem mean_going_1_lim [Dfr] (x0 : Tc) (x1 : Tc) : IsLim (fun k => run E k 89 (x0, x1)) (mean_going_1 x0 x1) := .run _ _
/-! slices.Grow[[]redress/mean.Pair,redress/mean.Pair] -/
noncomputable def slices_Grow__mean_Pair [Dfr] (x0 : Unit) (x1 : Int) : Option (List (Tc × Tc)) := lim fun k => run E k 90 (x0, x1)
theorem slices_Grow__mean_Pair_lim [Dfr] (x0 : Unit) (x1 : Int) : IsLim (fun k => run E k 90 (x0, x1)) (slices_Grow__mean_Pair x0 x1) := .run _ _
/-! redress/mean.set$1 -/
noncomputable def mean_set_1 [Dfr] (x0 : Tc × Tc) (x1 : Tc × Tc) : Option (Int) := lim fun k => run E k 91 (x0, x1)
theorem mean_set_1_lim [Dfr] (x0 : Tc × Tc) (x1 : Tc × Tc) : IsLim (fun k => run E k 91 (x0, x1)) (mean_set_1 x0 x1) := .run _ _
/-! cmp.Or[int] -/
noncomputable def cmp_Or__int [Dfr] (x0 : List Int) : Option (Int) := lim fun k => run E k 92 x0
theorem cmp_Or__int_lim [Dfr] (x0 : List Int) : IsLim (fun k => run E k 92 x0) (cmp_Or__int x0) := .run _ _
noncomputable def cmp_Or__int_l0 [Dfr] (y2 : Int) (y3 : Int) (y6 : List Int) (y7 : Int) (y8 : Int) : Option (Nat × (Int × Int)) := lim fun k => lp E 92 0 k k (y2, y3, y6, y7, y8)
theorem cmp_Or__int_l0_lim [Dfr] (y2 : Int) (y3 : Int) (y6 : List Int) (y7 : Int) (y8 : Int) : IsLim (fun k => lp E 92 0 k k (y2, y3, y6, y7, y8)) (cmp_Or__int_l0 y2 y3 y6 y7 y8) := .lp _ _ _
/-! redress/trace.Compare -/
noncomputable def trace_Compare [Dfr] (x0 : Tc) (x1 : Tc) : Option (Int) := lim fun k => run E k 93 (x0, x1)
theorem trace_Compare_lim [Dfr] (x0 : Tc) (x1 : Tc) : IsLim (fun k => run E k 93 (x0, x1)) (trace_Compare x0 x1) := .run _ _
/-! redress/mean.set$2 -/
noncomputable def mean_set_2 [Dfr] (x0 : Tc × Tc) (x1 : Tc × Tc) (x2 : Nat) : Option (Bool) := lim fun k => run E k 96 (x0, x1, x2)
theorem mean_set_2_lim [Dfr] (x0 : Tc × Tc) (x1 : Tc × Tc) (x2 : Nat) : IsLim (fun k => run E k 96 (x0, x1, x2)) (mean_set_2 x0 x1 x2) := .run _ _
/-! cmp.Compare[int] -/
noncomputable def cmp_Compare__int [Dfr] (x0 : Int) (x1 : Int) : Option (Int) := lim fun k => run E k 99 (x0, x1)
theorem cmp_Compare__int_lim [Dfr] (x0 : Int) (x1 : Int) : IsLim (fun k => run E k 99 (x0, x1)) (cmp_Compare__int x0 x1) := .run _ _
/-! strings.Trim -/
noncomputable def strings_Trim [Dfr] (x0 : ByteArray) (x1 : ByteArray) : Option (ByteArray) := lim fun k => run E k 100 (x0, x1)
theorem strings_Trim_lim [Dfr] (x0 : ByteArray) (x1 : ByteArray) : IsLim (fun k => run E k 100 (x0, x1)) (strings_Trim x0 x1) := .run _ _
/-! cmp.Compare[string] -/
noncomputable def cmp_Compare__string [Dfr] (x0 : ByteArray) (x1 : ByteArray) : Option (Int) := lim fun k => run E k 102 (x0, x1)
theorem cmp_Compare__string_lim [Dfr] (x0 : ByteArray) (x1 : ByteArray) : IsLim (fun k => run E k 102 (x0, x1)) (cmp_Compare__string x0 x1) := .run _ _
/-! cmp.isNaN[int] -/
noncomputable def cmp_isNaN__int [Dfr] (x0 : Int) : Option (Bool) := lim fun k => run E k 114 x0
theorem cmp_isNaN__int_lim [Dfr] (x0 : Int) : IsLim (fun k => run E k 114 x0) (cmp_isNaN__int x0) := .run _ _
/-! strings.trimLeftByte -/
noncomputable def strings_trimLeftByte [Dfr] (x0 : ByteArray) (x1 : Int) : Option (ByteArray) := lim fun k => run E k 115 (x0, x1)
theorem strings_trimLeftByte_lim [Dfr] (x0 : ByteArray) (x1 : Int) : IsLim (fun k => run E k 115 (x0, x1)) (strings_trimLeftByte x0 x1) := .run _ _
noncomputable def strings_trimLeftByte_l0 [Dfr] (y0 : ByteArray) (y1 : Int) : Option (Nat × ByteArray) := lim fun k => lp E 115 0 k k (y0, y1)
theorem strings_trimLeftByte_l0_lim [Dfr] (y0 : ByteArray) (y1 : Int) : IsLim (fun k => lp E 115 0 k k (y0, y1)) (strings_trimLeftByte_l0 y0 y1) := .lp _ _ _
/-! strings.trimRightByte -/
noncomputable def strings_trimRightByte [Dfr] (x0 : ByteArray) (x1 : Int) : Option (ByteArray) := lim fun k => run E k 116 (x0, x1)
theorem strings_trimRightByte_lim [Dfr] (x0 : ByteArray) (x1 : Int) : IsLim (fun k => run E k 116 (x0, x1)) (strings_trimRightByte x0 x1) := .run _ _
noncomputable def strings_trimRightByte_l0 [Dfr] (y0 : ByteArray) (y1 : Int) : Option (Nat × ByteArray) := lim fun k => lp E 116 0 k k (y0, y1)
theorem strings_trimRightByte_l0_lim [Dfr] (y0 : ByteArray) (y1 : Int) : IsLim (fun k => lp E 116 0 k k (y0, y1)) (strings_trimRightByte_l0 y0 y1) := .lp _ _ _
/-! cmp.isNaN[string] -/
noncomputable def cmp_isNaN__string [Dfr] (x0 : ByteArray) : Option (Bool) := lim fun k => run E k 130 x0
theorem cmp_isNaN__string_lim [Dfr] (x0 : ByteArray) : IsLim (fun k => run E k 130 x0) (cmp_isNaN__string x0) := .run _ _
end Go.Proofs.YthhefjmdfdckjaaGreatDoor.Sv
