/- The functions of the seat by name, as the evaluator tells them: what each tells in the end, and its equation, checked by the kernel. Written by a program (gen.py, emit3.py). -/

import Derived.Test.YtnooginekcnflaaSvE
namespace Go.Proofs.Ytnooginekcnflaa.Sv
open Go Go.Sv Go.Proofs
set_option linter.unusedVariables false
set_option maxRecDepth 100000
/-! redress/redresslaw08.RefuseRewrites -/
noncomputable def law08_RefuseRewrites (x0 : List Nd) (x1 : List ByteArray) : Option (Bool) := lim fun k => run E k 3 (x0, x1)
theorem law08_RefuseRewrites_lim (x0 : List Nd) (x1 : List ByteArray) : IsLim (fun k => run E k 3 (x0, x1)) (law08_RefuseRewrites x0 x1) := .run _ _
noncomputable def law08_RefuseRewrites_l2 (y0 : List Nd) (y1 : List ByteArray) (y5 : List Nd) (y6 : List Nd) (y7 : Int) (y9 : ByteArray) (y10 : Bool) (y28 : List ByteArray) (y29 : Int) (y30 : Int) (y37 : List ByteArray) (y38 : Int) (y39 : Int) : Option (Nat × (List Nd × List ByteArray × List Nd × List Nd × Int × ByteArray × Bool × List ByteArray × Int × Int)) := lim fun k => lp E 3 2 k k (y0, y1, y5, y6, y7, y9, y10, y28, y29, y30, y37, y38, y39)
theorem law08_RefuseRewrites_l2_lim (y0 : List Nd) (y1 : List ByteArray) (y5 : List Nd) (y6 : List Nd) (y7 : Int) (y9 : ByteArray) (y10 : Bool) (y28 : List ByteArray) (y29 : Int) (y30 : Int) (y37 : List ByteArray) (y38 : Int) (y39 : Int) : IsLim (fun k => lp E 3 2 k k (y0, y1, y5, y6, y7, y9, y10, y28, y29, y30, y37, y38, y39)) (law08_RefuseRewrites_l2 y0 y1 y5 y6 y7 y9 y10 y28 y29 y30 y37 y38 y39) := .lp _ _ _
noncomputable def law08_RefuseRewrites_l0 (y0 : List Nd) (y1 : List ByteArray) (y5 : List Nd) (y6 : List Nd) (y7 : Int) (y28 : List ByteArray) (y29 : Int) (y30 : Int) : Option (Nat × (List Nd × List ByteArray × List Nd × List Nd × Int)) := lim fun k => lp E 3 0 k k (y0, y1, y5, y6, y7, y28, y29, y30)
theorem law08_RefuseRewrites_l0_lim (y0 : List Nd) (y1 : List ByteArray) (y5 : List Nd) (y6 : List Nd) (y7 : Int) (y28 : List ByteArray) (y29 : Int) (y30 : Int) : IsLim (fun k => lp E 3 0 k k (y0, y1, y5, y6, y7, y28, y29, y30)) (law08_RefuseRewrites_l0 y0 y1 y5 y6 y7 y28 y29 y30) := .lp _ _ _
/-! redress/redresslaw08.RefusePlaces -/
noncomputable def law08_RefusePlaces (x0 : List Nd) (x1 : ByteArray) (x2 : Int) : Option (Bool) := lim fun k => run E k 4 (x0, x1, x2)
theorem law08_RefusePlaces_lim (x0 : List Nd) (x1 : ByteArray) (x2 : Int) : IsLim (fun k => run E k 4 (x0, x1, x2)) (law08_RefusePlaces x0 x1 x2) := .run _ _
noncomputable def law08_RefusePlaces_l0 (y0 : List Nd) (y2 : Int) (y6 : Bool) (y7 : List Int) (y8 : List Int) (y26 : Int) (y27 : Int) : Option (Nat × (List Nd × Int × Bool)) := lim fun k => lp E 4 0 k k (y0, y2, y6, y7, y8, y26, y27)
theorem law08_RefusePlaces_l0_lim (y0 : List Nd) (y2 : Int) (y6 : Bool) (y7 : List Int) (y8 : List Int) (y26 : Int) (y27 : Int) : IsLim (fun k => lp E 4 0 k k (y0, y2, y6, y7, y8, y26, y27)) (law08_RefusePlaces_l0 y0 y2 y6 y7 y8 y26 y27) := .lp _ _ _
/-! redress/redresslaw08.RefuseStrips -/
noncomputable def law08_RefuseStrips (x0 : List Nd) (x1 : List ByteArray) : Option (Bool) := lim fun k => run E k 5 (x0, x1)
theorem law08_RefuseStrips_lim (x0 : List Nd) (x1 : List ByteArray) : IsLim (fun k => run E k 5 (x0, x1)) (law08_RefuseStrips x0 x1) := .run _ _
/-! redress/redresslaw08.RefuseNone -/
noncomputable def law08_RefuseNone (x0 : List Nd) (x1 : ByteArray) : Option (Bool) := lim fun k => run E k 6 (x0, x1)
theorem law08_RefuseNone_lim (x0 : List Nd) (x1 : ByteArray) : IsLim (fun k => run E k 6 (x0, x1)) (law08_RefuseNone x0 x1) := .run _ _
noncomputable def law08_RefuseNone_l0 (y0 : List Nd) (y1 : ByteArray) (y5 : List Nd) (y6 : List Int) (y17 : Int) (y18 : Int) : Option (Nat × (List Nd × ByteArray × List Nd)) := lim fun k => lp E 6 0 k k (y0, y1, y5, y6, y17, y18)
theorem law08_RefuseNone_l0_lim (y0 : List Nd) (y1 : ByteArray) (y5 : List Nd) (y6 : List Int) (y17 : Int) (y18 : Int) : IsLim (fun k => lp E 6 0 k k (y0, y1, y5, y6, y17, y18)) (law08_RefuseNone_l0 y0 y1 y5 y6 y17 y18) := .lp _ _ _
/-! redress/redresslaw08.few -/
noncomputable def law08_few (x0 : List Nd) : Option (Bool) := lim fun k => run E k 7 x0
theorem law08_few_lim (x0 : List Nd) : IsLim (fun k => run E k 7 x0) (law08_few x0) := .run _ _
/-! redress/redresslaw08.alive -/
noncomputable def law08_alive : Option (Bool) := lim fun k => run E k 8 ()
theorem law08_alive_lim : IsLim (fun k => run E k 8 ()) (law08_alive) := .run _ _
/-! redress/refuse.Rewrite -/
noncomputable def refuse_Rewrite (x0 : List Nd) (x1 : List ByteArray) : Option (List Nd) := lim fun k => run E k 9 (x0, x1)
theorem refuse_Rewrite_lim (x0 : List Nd) (x1 : List ByteArray) : IsLim (fun k => run E k 9 (x0, x1)) (refuse_Rewrite x0 x1) := .run _ _
noncomputable def refuse_Rewrite_l1000 (y0 : List Nd) (y1 : List ByteArray) (y4 : List Nd) (y5 : List Nd) (y6 : Int) : Option (Nat × List Nd) := lim fun k => sc E 9 0 k k (y0, y1, y4, y5, y6)
theorem refuse_Rewrite_l1000_lim (y0 : List Nd) (y1 : List ByteArray) (y4 : List Nd) (y5 : List Nd) (y6 : Int) : IsLim (fun k => sc E 9 0 k k (y0, y1, y4, y5, y6)) (refuse_Rewrite_l1000 y0 y1 y4 y5 y6) := .sc _ _ _
/-! redress/refuse.Places -/
noncomputable def refuse_Places (x0 : List Nd) (x1 : ByteArray) : Option (List Int) := lim fun k => run E k 10 (x0, x1)
theorem refuse_Places_lim (x0 : List Nd) (x1 : ByteArray) : IsLim (fun k => run E k 10 (x0, x1)) (refuse_Places x0 x1) := .run _ _
noncomputable def refuse_Places_l0 (y1 : ByteArray) (y5 : List Int) (y8 : List Nd) (y9 : Int) (y10 : Int) : Option (Nat × List Int) := lim fun k => lp E 10 0 k k (y1, y5, y8, y9, y10)
theorem refuse_Places_l0_lim (y1 : ByteArray) (y5 : List Int) (y8 : List Nd) (y9 : Int) (y10 : Int) : IsLim (fun k => lp E 10 0 k k (y1, y5, y8, y9, y10)) (refuse_Places_l0 y1 y5 y8 y9 y10) := .lp _ _ _
/-! redress/redressref03.Same -/
noncomputable def ref03_Same (x0 : List Nd) (x1 : List Nd) : Option (Bool) := lim fun k => run E k 11 (x0, x1)
theorem ref03_Same_lim (x0 : List Nd) (x1 : List Nd) : IsLim (fun k => run E k 11 (x0, x1)) (ref03_Same x0 x1) := .run _ _
noncomputable def ref03_Same_l0 (y0 : List Nd) (y1 : List Nd) (y4 : Bool) (y5 : Int) : Option (Nat × Bool) := lim fun k => lp E 11 0 k k (y0, y1, y4, y5)
theorem ref03_Same_l0_lim (y0 : List Nd) (y1 : List Nd) (y4 : Bool) (y5 : Int) : IsLim (fun k => lp E 11 0 k k (y0, y1, y4, y5)) (ref03_Same_l0 y0 y1 y4 y5) := .lp _ _ _
/-! redress/redressref08.Rewrite -/
noncomputable def ref08_Rewrite (x0 : List Nd) (x1 : List ByteArray) : Option (List Nd) := lim fun k => run E k 12 (x0, x1)
theorem ref08_Rewrite_lim (x0 : List Nd) (x1 : List ByteArray) : IsLim (fun k => run E k 12 (x0, x1)) (ref08_Rewrite x0 x1) := .run _ _
noncomputable def ref08_Rewrite_l0 (y0 : List Nd) (y1 : List ByteArray) (y5 : List Nd) (y6 : Int) : Option (Nat × List Nd) := lim fun k => lp E 12 0 k k (y0, y1, y5, y6)
theorem ref08_Rewrite_l0_lim (y0 : List Nd) (y1 : List ByteArray) (y5 : List Nd) (y6 : Int) : IsLim (fun k => lp E 12 0 k k (y0, y1, y5, y6)) (ref08_Rewrite_l0 y0 y1 y5 y6) := .lp _ _ _
/-! redress/redressref08.Places -/
noncomputable def ref08_Places (x0 : List Nd) (x1 : ByteArray) : Option (List Int) := lim fun k => run E k 13 (x0, x1)
theorem ref08_Places_lim (x0 : List Nd) (x1 : ByteArray) : IsLim (fun k => run E k 13 (x0, x1)) (ref08_Places x0 x1) := .run _ _
noncomputable def ref08_Places_l0 (y0 : List Nd) (y1 : ByteArray) (y5 : List Int) (y6 : Int) : Option (Nat × List Int) := lim fun k => lp E 13 0 k k (y0, y1, y5, y6)
theorem ref08_Places_l0_lim (y0 : List Nd) (y1 : ByteArray) (y5 : List Int) (y6 : Int) : IsLim (fun k => lp E 13 0 k k (y0, y1, y5, y6)) (ref08_Places_l0 y0 y1 y5 y6) := .lp _ _ _
/-! redress/refuse.Mark -/
noncomputable def refuse_Mark (x0 : List Nd) (x1 : Int) : Option (List Nd) := lim fun k => run E k 14 (x0, x1)
theorem refuse_Mark_lim (x0 : List Nd) (x1 : Int) : IsLim (fun k => run E k 14 (x0, x1)) (refuse_Mark x0 x1) := .run _ _
/-! redress/redressref08.Mark -/
noncomputable def ref08_Mark (x0 : List Nd) (x1 : Int) : Option (List Nd) := lim fun k => run E k 15 (x0, x1)
theorem ref08_Mark_lim (x0 : List Nd) (x1 : Int) : IsLim (fun k => run E k 15 (x0, x1)) (ref08_Mark x0 x1) := .run _ _
noncomputable def ref08_Mark_l0 (y0 : List Nd) (y1 : Int) (y5 : List Nd) (y6 : Int) : Option (Nat × List Nd) := lim fun k => lp E 15 0 k k (y0, y1, y5, y6)
theorem ref08_Mark_l0_lim (y0 : List Nd) (y1 : Int) (y5 : List Nd) (y6 : Int) : IsLim (fun k => lp E 15 0 k k (y0, y1, y5, y6)) (ref08_Mark_l0 y0 y1 y5 y6) := .lp _ _ _
/-! redress/refuse.Strip -/
noncomputable def refuse_Strip (x0 : List Nd) : Option (List Nd) := lim fun k => run E k 16 x0
theorem refuse_Strip_lim (x0 : List Nd) : IsLim (fun k => run E k 16 x0) (refuse_Strip x0) := .run _ _
noncomputable def refuse_Strip_l1000 (y0 : List Nd) (y2 : List Nd) (y3 : List Nd) (y4 : Int) : Option (Nat × List Nd) := lim fun k => sc E 16 0 k k (y0, y2, y3, y4)
theorem refuse_Strip_l1000_lim (y0 : List Nd) (y2 : List Nd) (y3 : List Nd) (y4 : Int) : IsLim (fun k => sc E 16 0 k k (y0, y2, y3, y4)) (refuse_Strip_l1000 y0 y2 y3 y4) := .sc _ _ _
/-! redress/redressref08.Strip -/
noncomputable def ref08_Strip (x0 : List Nd) : Option (List Nd) := lim fun k => run E k 17 x0
theorem ref08_Strip_lim (x0 : List Nd) : IsLim (fun k => run E k 17 x0) (ref08_Strip x0) := .run _ _
/-! redress/redressref03.Depth -/
noncomputable def ref03_Depth (x0 : List Nd) : Option (Int) := lim fun k => run E k 18 x0
theorem ref03_Depth_lim (x0 : List Nd) : IsLim (fun k => run E k 18 x0) (ref03_Depth x0) := .run _ _
/-! slices.Contains[[]string,string] -/
noncomputable def slices_Contains__string (x0 : List ByteArray) (x1 : ByteArray) : Option (Bool) := lim fun k => run E k 19 (x0, x1)
theorem slices_Contains__string_lim (x0 : List ByteArray) (x1 : ByteArray) : IsLim (fun k => run E k 19 (x0, x1)) (slices_Contains__string x0 x1) := .run _ _
/-! redress/refuse.refusable -/
noncomputable def refuse_refusable (x0 : Nd) : Option (List Nd) := lim fun k => run E k 20 x0
theorem refuse_refusable_lim (x0 : Nd) : IsLim (fun k => run E k 20 x0) (refuse_refusable x0) := .run _ _
/-! redress/redressref08.in -/
noncomputable def ref08_in (x0 : List ByteArray) (x1 : ByteArray) : Option (Bool) := lim fun k => run E k 21 (x0, x1)
theorem ref08_in_lim (x0 : List ByteArray) (x1 : ByteArray) : IsLim (fun k => run E k 21 (x0, x1)) (ref08_in x0 x1) := .run _ _
noncomputable def ref08_in_l0 (y0 : List ByteArray) (y1 : ByteArray) (y4 : Bool) (y5 : Int) : Option (Nat × Bool) := lim fun k => lp E 21 0 k k (y0, y1, y4, y5)
theorem ref08_in_l0_lim (y0 : List ByteArray) (y1 : ByteArray) (y4 : Bool) (y5 : Int) : IsLim (fun k => lp E 21 0 k k (y0, y1, y4, y5)) (ref08_in_l0 y0 y1 y4 y5) := .lp _ _ _
/-! redress/redressref08.may -/
noncomputable def ref08_may (x0 : Nd) : Option (List Nd) := lim fun k => run E k 22 x0
theorem ref08_may_lim (x0 : Nd) : IsLim (fun k => run E k 22 x0) (ref08_may x0) := .run _ _
/-! slices.Clone[[]redress/api.Node,redress/api.Node] -/
noncomputable def slices_Clone__api_Node (x0 : List Nd) : Option (List Nd) := lim fun k => run E k 23 x0
theorem slices_Clone__api_Node_lim (x0 : List Nd) : IsLim (fun k => run E k 23 x0) (slices_Clone__api_Node x0) := .run _ _
/-! slices.Concat[[]redress/api.Node,redress/api.Node] -/
noncomputable def slices_Concat__api_Node (x0 : List (List Nd)) : Option (List Nd) := lim fun k => run E k 24 x0
theorem slices_Concat__api_Node_lim (x0 : List (List Nd)) : IsLim (fun k => run E k 24 x0) (slices_Concat__api_Node x0) := .run _ _
noncomputable def slices_Concat__api_Node_l0 (y0 : List (List Nd)) (y3 : Int) (y9 : List (List Nd)) (y10 : Int) (y11 : Int) : Option (Nat × (List (List Nd) × Int)) := lim fun k => lp E 24 0 k k (y0, y3, y9, y10, y11)
theorem slices_Concat__api_Node_l0_lim (y0 : List (List Nd)) (y3 : Int) (y9 : List (List Nd)) (y10 : Int) (y11 : Int) : IsLim (fun k => lp E 24 0 k k (y0, y3, y9, y10, y11)) (slices_Concat__api_Node_l0 y0 y3 y9 y10 y11) := .lp _ _ _
noncomputable def slices_Concat__api_Node_l2 (y6 : List Nd) (y25 : List (List Nd)) (y26 : Int) (y27 : Int) : Option (Nat × List Nd) := lim fun k => lp E 24 2 k k (y6, y25, y26, y27)
theorem slices_Concat__api_Node_l2_lim (y6 : List Nd) (y25 : List (List Nd)) (y26 : Int) (y27 : Int) : IsLim (fun k => lp E 24 2 k k (y6, y25, y26, y27)) (slices_Concat__api_Node_l2 y6 y25 y26 y27) := .lp _ _ _
/-! slices.Equal[[]redress/api.Node,redress/api.Node] -/
noncomputable def slices_Equal__api_Node (x0 : List Nd) (x1 : List Nd) : Option (Bool) := lim fun k => run E k 25 (x0, x1)
theorem slices_Equal__api_Node_lim (x0 : List Nd) (x1 : List Nd) : IsLim (fun k => run E k 25 (x0, x1)) (slices_Equal__api_Node x0 x1) := .run _ _
noncomputable def slices_Equal__api_Node_l0 (y0 : List Nd) (y1 : List Nd) (y4 : Bool) (y12 : Int) (y13 : Int) : Option (Nat × Bool) := lim fun k => lp E 25 0 k k (y0, y1, y4, y12, y13)
theorem slices_Equal__api_Node_l0_lim (y0 : List Nd) (y1 : List Nd) (y4 : Bool) (y12 : Int) (y13 : Int) : IsLim (fun k => lp E 25 0 k k (y0, y1, y4, y12, y13)) (slices_Equal__api_Node_l0 y0 y1 y4 y12 y13) := .lp _ _ _
/-! redress/redressref03.Walk -/
noncomputable def ref03_Walk (x0 : List Nd) (x1 : Int) : Option (Int × Int) := lim fun k => run E k 26 (x0, x1)
theorem ref03_Walk_lim (x0 : List Nd) (x1 : Int) : IsLim (fun k => run E k 26 (x0, x1)) (ref03_Walk x0 x1) := .run _ _
noncomputable def ref03_Walk_l0 (y0 : List Nd) (y1 : Int) (y4 : Int) (y5 : Int) (y6 : Int) (y7 : Int) (y8 : Int) : Option (Nat × (Int × Int × Int × Int)) := lim fun k => lp E 26 0 k k (y0, y1, y4, y5, y6, y7, y8)
theorem ref03_Walk_l0_lim (y0 : List Nd) (y1 : Int) (y4 : Int) (y5 : Int) (y6 : Int) (y7 : Int) (y8 : Int) : IsLim (fun k => lp E 26 0 k k (y0, y1, y4, y5, y6, y7, y8)) (ref03_Walk_l0 y0 y1 y4 y5 y6 y7 y8) := .lp _ _ _
/-! slices.Index[[]string,string] -/
noncomputable def slices_Index__string (x0 : List ByteArray) (x1 : ByteArray) : Option (Int) := lim fun k => run E k 27 (x0, x1)
theorem slices_Index__string_lim (x0 : List ByteArray) (x1 : ByteArray) : IsLim (fun k => run E k 27 (x0, x1)) (slices_Index__string x0 x1) := .run _ _
noncomputable def slices_Index__string_l0 (y0 : List ByteArray) (y1 : ByteArray) (y4 : Int) (y7 : Int) (y8 : Int) : Option (Nat × Int) := lim fun k => lp E 27 0 k k (y0, y1, y4, y7, y8)
theorem slices_Index__string_l0_lim (y0 : List ByteArray) (y1 : ByteArray) (y4 : Int) (y7 : Int) (y8 : Int) : IsLim (fun k => lp E 27 0 k k (y0, y1, y4, y7, y8)) (slices_Index__string_l0 y0 y1 y4 y7 y8) := .lp _ _ _
/-! slices.Grow[[]redress/api.Node,redress/api.Node] -/
noncomputable def slices_Grow__api_Node (x0 : Unit) (x1 : Int) : Option (List Nd) := lim fun k => run E k 28 (x0, x1)
theorem slices_Grow__api_Node_lim (x0 : Unit) (x1 : Int) : IsLim (fun k => run E k 28 (x0, x1)) (slices_Grow__api_Node x0 x1) := .run _ _
/-! redress/redressref03.Arity -/
noncomputable def ref03_Arity (x0 : Int) : Option (Int) := lim fun k => run E k 29 x0
theorem ref03_Arity_lim (x0 : Int) : IsLim (fun k => run E k 29 x0) (ref03_Arity x0) := .run _ _
end Go.Proofs.Ytnooginekcnflaa.Sv
