/- The functions of the seat by name, as the evaluator tells them: what each tells in the end, and its equation, checked by the kernel. Written by a program (gen.py, emit3.py). -/

import Derived.Test.YthhefjmdfdckjaaDoorSvE
namespace Go.Proofs.YthhefjmdfdckjaaDoor.Sv
open Go Go.Sv Go.Proofs
set_option linter.unusedVariables false
set_option maxRecDepth 100000
/-! redress/redresslaw08.RefuseSorts -/
noncomputable def law08_RefuseSorts (x0 : List Nd) (x1 : List ByteArray) : Option (Bool) := lim fun k => run E k 3 (x0, x1)
theorem law08_RefuseSorts_lim (x0 : List Nd) (x1 : List ByteArray) : IsLim (fun k => run E k 3 (x0, x1)) (law08_RefuseSorts x0 x1) := .run _ _
/-! redress/redresslaw08.few -/
noncomputable def law08_few (x0 : List Nd) : Option (Bool) := lim fun k => run E k 4 x0
theorem law08_few_lim (x0 : List Nd) : IsLim (fun k => run E k 4 x0) (law08_few x0) := .run _ _
/-! redress/redresslaw08.alive -/
noncomputable def law08_alive : Option (Bool) := lim fun k => run E k 5 ()
theorem law08_alive_lim : IsLim (fun k => run E k 5 ()) (law08_alive) := .run _ _
/-! redress/refuse.Rewrite -/
noncomputable def refuse_Rewrite (x0 : List Nd) (x1 : List ByteArray) : Option (List Nd) := lim fun k => run E k 6 (x0, x1)
theorem refuse_Rewrite_lim (x0 : List Nd) (x1 : List ByteArray) : IsLim (fun k => run E k 6 (x0, x1)) (refuse_Rewrite x0 x1) := .run _ _
noncomputable def refuse_Rewrite_l1000 (y0 : List Nd) (y1 : List ByteArray) (y4 : List Nd) (y5 : List Nd) (y6 : Int) : Option (Nat × List Nd) := lim fun k => sc E 6 0 k k (y0, y1, y4, y5, y6)
theorem refuse_Rewrite_l1000_lim (y0 : List Nd) (y1 : List ByteArray) (y4 : List Nd) (y5 : List Nd) (y6 : Int) : IsLim (fun k => sc E 6 0 k k (y0, y1, y4, y5, y6)) (refuse_Rewrite_l1000 y0 y1 y4 y5 y6) := .sc _ _ _
/-! redress/sort.Of -/
noncomputable def sort_Of (x0 : List Nd) : Option (Int) := lim fun k => run E k 7 x0
theorem sort_Of_lim (x0 : List Nd) : IsLim (fun k => run E k 7 x0) (sort_Of x0) := .run _ _
/-! redress/row.Count -/
noncomputable def row_Count (x0 : List Nd) (x1 : List Int) : Option (Int) := lim fun k => run E k 8 (x0, x1)
theorem row_Count_lim (x0 : List Nd) (x1 : List Int) : IsLim (fun k => run E k 8 (x0, x1)) (row_Count x0 x1) := .run _ _
noncomputable def row_Count_l0 (y1 : List Int) (y5 : Int) (y8 : List Nd) (y9 : Int) (y10 : Int) : Option (Nat × Int) := lim fun k => lp E 8 0 k k (y1, y5, y8, y9, y10)
theorem row_Count_l0_lim (y1 : List Int) (y5 : Int) (y8 : List Nd) (y9 : Int) (y10 : Int) : IsLim (fun k => lp E 8 0 k k (y1, y5, y8, y9, y10)) (row_Count_l0 y1 y5 y8 y9 y10) := .lp _ _ _
/-! redress/redressref03.Depth -/
noncomputable def ref03_Depth (x0 : List Nd) : Option (Int) := lim fun k => run E k 9 x0
theorem ref03_Depth_lim (x0 : List Nd) : IsLim (fun k => run E k 9 x0) (ref03_Depth x0) := .run _ _
/-! redress/refuse.Places -/
noncomputable def refuse_Places (x0 : List Nd) (x1 : ByteArray) : Option (List Int) := lim fun k => run E k 10 (x0, x1)
theorem refuse_Places_lim (x0 : List Nd) (x1 : ByteArray) : IsLim (fun k => run E k 10 (x0, x1)) (refuse_Places x0 x1) := .run _ _
noncomputable def refuse_Places_l0 (y1 : ByteArray) (y5 : List Int) (y8 : List Nd) (y9 : Int) (y10 : Int) : Option (Nat × List Int) := lim fun k => lp E 10 0 k k (y1, y5, y8, y9, y10)
theorem refuse_Places_l0_lim (y1 : ByteArray) (y5 : List Int) (y8 : List Nd) (y9 : Int) (y10 : Int) : IsLim (fun k => lp E 10 0 k k (y1, y5, y8, y9, y10)) (refuse_Places_l0 y1 y5 y8 y9 y10) := .lp _ _ _
/-! redress/redressref03.Same -/
noncomputable def ref03_Same (x0 : List Nd) (x1 : List Nd) : Option (Bool) := lim fun k => run E k 11 (x0, x1)
theorem ref03_Same_lim (x0 : List Nd) (x1 : List Nd) : IsLim (fun k => run E k 11 (x0, x1)) (ref03_Same x0 x1) := .run _ _
noncomputable def ref03_Same_l0 (y0 : List Nd) (y1 : List Nd) (y4 : Bool) (y5 : Int) : Option (Nat × Bool) := lim fun k => lp E 11 0 k k (y0, y1, y4, y5)
theorem ref03_Same_l0_lim (y0 : List Nd) (y1 : List Nd) (y4 : Bool) (y5 : Int) : IsLim (fun k => lp E 11 0 k k (y0, y1, y4, y5)) (ref03_Same_l0 y0 y1 y4 y5) := .lp _ _ _
/-! redress/refuse.Mark -/
noncomputable def refuse_Mark (x0 : List Nd) (x1 : Int) : Option (List Nd) := lim fun k => run E k 12 (x0, x1)
theorem refuse_Mark_lim (x0 : List Nd) (x1 : Int) : IsLim (fun k => run E k 12 (x0, x1)) (refuse_Mark x0 x1) := .run _ _
/-! redress/refuse.Strip -/
noncomputable def refuse_Strip (x0 : List Nd) : Option (List Nd) := lim fun k => run E k 13 x0
theorem refuse_Strip_lim (x0 : List Nd) : IsLim (fun k => run E k 13 x0) (refuse_Strip x0) := .run _ _
noncomputable def refuse_Strip_l1000 (y0 : List Nd) (y2 : List Nd) (y3 : List Nd) (y4 : Int) : Option (Nat × List Nd) := lim fun k => sc E 13 0 k k (y0, y2, y3, y4)
theorem refuse_Strip_l1000_lim (y0 : List Nd) (y2 : List Nd) (y3 : List Nd) (y4 : Int) : IsLim (fun k => sc E 13 0 k k (y0, y2, y3, y4)) (refuse_Strip_l1000 y0 y2 y3 y4) := .sc _ _ _
/-! slices.Contains[[]string,string] -/
noncomputable def slices_Contains__string (x0 : List ByteArray) (x1 : ByteArray) : Option (Bool) := lim fun k => run E k 14 (x0, x1)
theorem slices_Contains__string_lim (x0 : List ByteArray) (x1 : ByteArray) : IsLim (fun k => run E k 14 (x0, x1)) (slices_Contains__string x0 x1) := .run _ _
/-! redress/refuse.refusable -/
noncomputable def refuse_refusable (x0 : Nd) : Option (List Nd) := lim fun k => run E k 15 x0
theorem refuse_refusable_lim (x0 : Nd) : IsLim (fun k => run E k 15 x0) (refuse_refusable x0) := .run _ _
/-! redress/row.Whole -/
noncomputable def row_Whole (x0 : List Nd) : Option (Bool) := lim fun k => run E k 16 x0
theorem row_Whole_lim (x0 : List Nd) : IsLim (fun k => run E k 16 x0) (row_Whole x0) := .run _ _
/-! redress/sort.sort -/
noncomputable def sort_sort (x0 : List Nd) : Option (Int) := lim fun k => run E k 17 x0
theorem sort_sort_lim (x0 : List Nd) : IsLim (fun k => run E k 17 x0) (sort_sort x0) := .run _ _
noncomputable def sort_sort_l0 (y0 : List Nd) (y2 : Int) (y3 : List Int) (y8 : List (List Nd)) (y9 : Int) (y10 : Int) : Option (Nat × (List Nd × Int × List Int)) := lim fun k => lp E 17 0 k k (y0, y2, y3, y8, y9, y10)
theorem sort_sort_l0_lim (y0 : List Nd) (y2 : Int) (y3 : List Int) (y8 : List (List Nd)) (y9 : Int) (y10 : Int) : IsLim (fun k => lp E 17 0 k k (y0, y2, y3, y8, y9, y10)) (sort_sort_l0 y0 y2 y3 y8 y9 y10) := .lp _ _ _
/-! slices.Contains[[]int,int] -/
noncomputable def slices_Contains__int (x0 : List Int) (x1 : Int) : Option (Bool) := lim fun k => run E k 18 (x0, x1)
theorem slices_Contains__int_lim (x0 : List Int) (x1 : Int) : IsLim (fun k => run E k 18 (x0, x1)) (slices_Contains__int x0 x1) := .run _ _
/-! redress/redressref03.Walk -/
noncomputable def ref03_Walk (x0 : List Nd) (x1 : Int) : Option (Int × Int) := lim fun k => run E k 19 (x0, x1)
theorem ref03_Walk_lim (x0 : List Nd) (x1 : Int) : IsLim (fun k => run E k 19 (x0, x1)) (ref03_Walk x0 x1) := .run _ _
noncomputable def ref03_Walk_l0 (y0 : List Nd) (y1 : Int) (y4 : Int) (y5 : Int) (y6 : Int) (y7 : Int) (y8 : Int) : Option (Nat × (Int × Int × Int × Int)) := lim fun k => lp E 19 0 k k (y0, y1, y4, y5, y6, y7, y8)
theorem ref03_Walk_l0_lim (y0 : List Nd) (y1 : Int) (y4 : Int) (y5 : Int) (y6 : Int) (y7 : Int) (y8 : Int) : IsLim (fun k => lp E 19 0 k k (y0, y1, y4, y5, y6, y7, y8)) (ref03_Walk_l0 y0 y1 y4 y5 y6 y7 y8) := .lp _ _ _
/-! slices.Clone[[]redress/api.Node,redress/api.Node] -/
noncomputable def slices_Clone__api_Node (x0 : List Nd) : Option (List Nd) := lim fun k => run E k 20 x0
theorem slices_Clone__api_Node_lim (x0 : List Nd) : IsLim (fun k => run E k 20 x0) (slices_Clone__api_Node x0) := .run _ _
/-! slices.Concat[[]redress/api.Node,redress/api.Node] -/
noncomputable def slices_Concat__api_Node (x0 : List (List Nd)) : Option (List Nd) := lim fun k => run E k 21 x0
theorem slices_Concat__api_Node_lim (x0 : List (List Nd)) : IsLim (fun k => run E k 21 x0) (slices_Concat__api_Node x0) := .run _ _
noncomputable def slices_Concat__api_Node_l0 (y0 : List (List Nd)) (y3 : Int) (y9 : List (List Nd)) (y10 : Int) (y11 : Int) : Option (Nat × (List (List Nd) × Int)) := lim fun k => lp E 21 0 k k (y0, y3, y9, y10, y11)
theorem slices_Concat__api_Node_l0_lim (y0 : List (List Nd)) (y3 : Int) (y9 : List (List Nd)) (y10 : Int) (y11 : Int) : IsLim (fun k => lp E 21 0 k k (y0, y3, y9, y10, y11)) (slices_Concat__api_Node_l0 y0 y3 y9 y10 y11) := .lp _ _ _
noncomputable def slices_Concat__api_Node_l2 (y6 : List Nd) (y25 : List (List Nd)) (y26 : Int) (y27 : Int) : Option (Nat × List Nd) := lim fun k => lp E 21 2 k k (y6, y25, y26, y27)
theorem slices_Concat__api_Node_l2_lim (y6 : List Nd) (y25 : List (List Nd)) (y26 : Int) (y27 : Int) : IsLim (fun k => lp E 21 2 k k (y6, y25, y26, y27)) (slices_Concat__api_Node_l2 y6 y25 y26 y27) := .lp _ _ _
/-! slices.Equal[[]redress/api.Node,redress/api.Node] -/
noncomputable def slices_Equal__api_Node (x0 : List Nd) (x1 : List Nd) : Option (Bool) := lim fun k => run E k 22 (x0, x1)
theorem slices_Equal__api_Node_lim (x0 : List Nd) (x1 : List Nd) : IsLim (fun k => run E k 22 (x0, x1)) (slices_Equal__api_Node x0 x1) := .run _ _
noncomputable def slices_Equal__api_Node_l0 (y0 : List Nd) (y1 : List Nd) (y4 : Bool) (y12 : Int) (y13 : Int) : Option (Nat × Bool) := lim fun k => lp E 22 0 k k (y0, y1, y4, y12, y13)
theorem slices_Equal__api_Node_l0_lim (y0 : List Nd) (y1 : List Nd) (y4 : Bool) (y12 : Int) (y13 : Int) : IsLim (fun k => lp E 22 0 k k (y0, y1, y4, y12, y13)) (slices_Equal__api_Node_l0 y0 y1 y4 y12 y13) := .lp _ _ _
/-! slices.Index[[]string,string] -/
noncomputable def slices_Index__string (x0 : List ByteArray) (x1 : ByteArray) : Option (Int) := lim fun k => run E k 23 (x0, x1)
theorem slices_Index__string_lim (x0 : List ByteArray) (x1 : ByteArray) : IsLim (fun k => run E k 23 (x0, x1)) (slices_Index__string x0 x1) := .run _ _
noncomputable def slices_Index__string_l0 (y0 : List ByteArray) (y1 : ByteArray) (y4 : Int) (y7 : Int) (y8 : Int) : Option (Nat × Int) := lim fun k => lp E 23 0 k k (y0, y1, y4, y7, y8)
theorem slices_Index__string_l0_lim (y0 : List ByteArray) (y1 : ByteArray) (y4 : Int) (y7 : Int) (y8 : Int) : IsLim (fun k => lp E 23 0 k k (y0, y1, y4, y7, y8)) (slices_Index__string_l0 y0 y1 y4 y7 y8) := .lp _ _ _
/-! redress/row.Whole$1 -/
noncomputable def row_Whole_1 (x0 : Nd) : Option (Bool) := lim fun k => run E k 24 x0
theorem row_Whole_1_lim (x0 : Nd) : IsLim (fun k => run E k 24 x0) (row_Whole_1 x0) := .run _ _
/-! redress/row.Right -/
noncomputable def row_Right (x0 : Nd) : Option (Bool) := lim fun k => run E k 25 x0
theorem row_Right_lim (x0 : Nd) : IsLim (fun k => run E k 25 x0) (row_Right x0) := .run _ _
/-! slices.ContainsFunc[[]redress/api.Node,redress/api.Node] -/
noncomputable def slices_ContainsFunc__api_Node (x0 : List Nd) (x1 : FnV) : Option (Bool) := lim fun k => run E k 26 (x0, x1)
theorem slices_ContainsFunc__api_Node_lim (x0 : List Nd) (x1 : FnV) : IsLim (fun k => run E k 26 (x0, x1)) (slices_ContainsFunc__api_Node x0 x1) := .run _ _
/-! redress/row.Size -/
noncomputable def row_Size (x0 : List Nd) : Option (Int) := lim fun k => run E k 27 x0
theorem row_Size_lim (x0 : List Nd) : IsLim (fun k => run E k 27 x0) (row_Size x0) := .run _ _
noncomputable def row_Size_l0 (y2 : Int) (y3 : Int) (y7 : List Nd) (y8 : Int) (y9 : Int) : Option (Nat × Int) := lim fun k => lp E 27 0 k k (y2, y3, y7, y8, y9)
theorem row_Size_l0_lim (y2 : Int) (y3 : Int) (y7 : List Nd) (y8 : Int) (y9 : Int) : IsLim (fun k => lp E 27 0 k k (y2, y3, y7, y8, y9)) (row_Size_l0 y2 y3 y7 y8 y9) := .lp _ _ _
/-! redress/row.Kids -/
noncomputable def row_Kids (x0 : List Nd) : Option (List (List Nd)) := lim fun k => run E k 28 x0
theorem row_Kids_lim (x0 : List Nd) : IsLim (fun k => run E k 28 x0) (row_Kids x0) := .run _ _
noncomputable def row_Kids_l0 (y0 : List Nd) (y3 : List (List Nd)) (y4 : Int) (y13 : Int) (y14 : Int) : Option (Nat × List (List Nd)) := lim fun k => lp E 28 0 k k (y0, y3, y4, y13, y14)
theorem row_Kids_l0_lim (y0 : List Nd) (y3 : List (List Nd)) (y4 : Int) (y13 : Int) (y14 : Int) : IsLim (fun k => lp E 28 0 k k (y0, y3, y4, y13, y14)) (row_Kids_l0 y0 y3 y4 y13 y14) := .lp _ _ _
/-! redress/sort.both -/
noncomputable def sort_both (x0 : Int) (x1 : Int) : Option (Int) := lim fun k => run E k 29 (x0, x1)
theorem sort_both_lim (x0 : Int) (x1 : Int) : IsLim (fun k => run E k 29 (x0, x1)) (sort_both x0 x1) := .run _ _
/-! redress/sort.behind -/
noncomputable def sort_behind (x0 : Int) (x1 : Int) (x2 : Int) : Option (Int) := lim fun k => run E k 30 (x0, x1, x2)
theorem sort_behind_lim (x0 : Int) (x1 : Int) (x2 : Int) : IsLim (fun k => run E k 30 (x0, x1, x2)) (sort_behind x0 x1 x2) := .run _ _
/-! redress/sort.on -/
noncomputable def sort_on (x0 : Int) : Option (Int) := lim fun k => run E k 31 x0
theorem sort_on_lim (x0 : Int) : IsLim (fun k => run E k 31 x0) (sort_on x0) := .run _ _
/-! slices.Index[[]int,int] -/
noncomputable def slices_Index__int (x0 : List Int) (x1 : Int) : Option (Int) := lim fun k => run E k 32 (x0, x1)
theorem slices_Index__int_lim (x0 : List Int) (x1 : Int) : IsLim (fun k => run E k 32 (x0, x1)) (slices_Index__int x0 x1) := .run _ _
noncomputable def slices_Index__int_l0 (y0 : List Int) (y1 : Int) (y4 : Int) (y7 : Int) (y8 : Int) : Option (Nat × Int) := lim fun k => lp E 32 0 k k (y0, y1, y4, y7, y8)
theorem slices_Index__int_l0_lim (y0 : List Int) (y1 : Int) (y4 : Int) (y7 : Int) (y8 : Int) : IsLim (fun k => lp E 32 0 k k (y0, y1, y4, y7, y8)) (slices_Index__int_l0 y0 y1 y4 y7 y8) := .lp _ _ _
/-! redress/redressref03.Arity -/
noncomputable def ref03_Arity (x0 : Int) : Option (Int) := lim fun k => run E k 33 x0
theorem ref03_Arity_lim (x0 : Int) : IsLim (fun k => run E k 33 x0) (ref03_Arity x0) := .run _ _
/-! slices.Grow[[]redress/api.Node,redress/api.Node] -/
noncomputable def slices_Grow__api_Node (x0 : Unit) (x1 : Int) : Option (List Nd) := lim fun k => run E k 34 (x0, x1)
theorem slices_Grow__api_Node_lim (x0 : Unit) (x1 : Int) : IsLim (fun k => run E k 34 (x0, x1)) (slices_Grow__api_Node x0 x1) := .run _ _
/-! redress/row.named -/
noncomputable def row_named (x0 : ByteArray) : Option (Bool) := lim fun k => run E k 35 x0
theorem row_named_lim (x0 : ByteArray) : IsLim (fun k => run E k 35 x0) (row_named x0) := .run _ _
/-! redress/row.Arity -/
noncomputable def row_Arity (x0 : Int) : Option (Int) := lim fun k => run E k 36 x0
theorem row_Arity_lim (x0 : Int) : IsLim (fun k => run E k 36 x0) (row_Arity x0) := .run _ _
/-! slices.IndexFunc[[]redress/api.Node,redress/api.Node] -/
noncomputable def slices_IndexFunc__api_Node (x0 : List Nd) (x1 : FnV) : Option (Int) := lim fun k => run E k 37 (x0, x1)
theorem slices_IndexFunc__api_Node_lim (x0 : List Nd) (x1 : FnV) : IsLim (fun k => run E k 37 (x0, x1)) (slices_IndexFunc__api_Node x0 x1) := .run _ _
noncomputable def slices_IndexFunc__api_Node_l0 (y0 : List Nd) (y1 : FnV) (y4 : Int) (y7 : Int) (y8 : Int) : Option (Nat × Int) := lim fun k => lp E 37 0 k k (y0, y1, y4, y7, y8)
theorem slices_IndexFunc__api_Node_l0_lim (y0 : List Nd) (y1 : FnV) (y4 : Int) (y7 : Int) (y8 : Int) : IsLim (fun k => lp E 37 0 k k (y0, y1, y4, y7, y8)) (slices_IndexFunc__api_Node_l0 y0 y1 y4 y7 y8) := .lp _ _ _
/-! strings.Trim -/
noncomputable def strings_Trim (x0 : ByteArray) (x1 : ByteArray) : Option (ByteArray) := lim fun k => run E k 38 (x0, x1)
theorem strings_Trim_lim (x0 : ByteArray) (x1 : ByteArray) : IsLim (fun k => run E k 38 (x0, x1)) (strings_Trim x0 x1) := .run _ _
/-! strings.trimLeftByte -/
noncomputable def strings_trimLeftByte (x0 : ByteArray) (x1 : Int) : Option (ByteArray) := lim fun k => run E k 39 (x0, x1)
theorem strings_trimLeftByte_lim (x0 : ByteArray) (x1 : Int) : IsLim (fun k => run E k 39 (x0, x1)) (strings_trimLeftByte x0 x1) := .run _ _
noncomputable def strings_trimLeftByte_l0 (y0 : ByteArray) (y1 : Int) : Option (Nat × ByteArray) := lim fun k => lp E 39 0 k k (y0, y1)
theorem strings_trimLeftByte_l0_lim (y0 : ByteArray) (y1 : Int) : IsLim (fun k => lp E 39 0 k k (y0, y1)) (strings_trimLeftByte_l0 y0 y1) := .lp _ _ _
/-! strings.trimRightByte -/
noncomputable def strings_trimRightByte (x0 : ByteArray) (x1 : Int) : Option (ByteArray) := lim fun k => run E k 40 (x0, x1)
theorem strings_trimRightByte_lim (x0 : ByteArray) (x1 : Int) : IsLim (fun k => run E k 40 (x0, x1)) (strings_trimRightByte x0 x1) := .run _ _
noncomputable def strings_trimRightByte_l0 (y0 : ByteArray) (y1 : Int) : Option (Nat × ByteArray) := lim fun k => lp E 40 0 k k (y0, y1)
theorem strings_trimRightByte_l0_lim (y0 : ByteArray) (y1 : Int) : IsLim (fun k => lp E 40 0 k k (y0, y1)) (strings_trimRightByte_l0 y0 y1) := .lp _ _ _
end Go.Proofs.YthhefjmdfdckjaaDoor.Sv
