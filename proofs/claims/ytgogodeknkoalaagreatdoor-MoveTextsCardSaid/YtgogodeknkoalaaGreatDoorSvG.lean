/- The functions of the seat by name, as the evaluator tells them: what each tells in the end, and its equation, checked by the kernel. Written by a program (gen.py, emit3.py). -/
import Derived.Test.YtgogodeknkoalaaGreatDoorSvE
namespace Go.Proofs.YtgogodeknkoalaaGreatDoor.Sv
open Go Go.Sv Go.Proofs
set_option linter.unusedVariables false
set_option maxRecDepth 100000
/-! redress/redresslaw12.MoveTexts -/
noncomputable def law12_MoveTexts [Dfr] (x0 : Mv) : Option (Bool) := lim fun k => run E k 5 x0
/-! redress/redresslaw12.alive -/
noncomputable def law12_alive [Dfr] : Option (Bool) := lim fun k => run E k 9 ()
theorem law12_alive_lim [Dfr] : IsLim (fun k => run E k 9 ()) (law12_alive) := .run _ _
/-! redress/redressref12.Same -/
noncomputable def ref12_Same [Dfr] (x0 : List Mv) (x1 : List Mv) : Option (Bool) := lim fun k => run E k 10 (x0, x1)
theorem ref12_Same_lim [Dfr] (x0 : List Mv) (x1 : List Mv) : IsLim (fun k => run E k 10 (x0, x1)) (ref12_Same x0 x1) := .run _ _
noncomputable def ref12_Same_l0 [Dfr] (y0 : List Mv) (y1 : List Mv) (y4 : Bool) (y5 : Int) : Option (Nat × Bool) := lim fun k => lp E 10 0 k k (y0, y1, y4, y5)
theorem ref12_Same_l0_lim [Dfr] (y0 : List Mv) (y1 : List Mv) (y4 : Bool) (y5 : Int) : IsLim (fun k => lp E 10 0 k k (y0, y1, y4, y5)) (ref12_Same_l0 y0 y1 y4 y5) := .lp _ _ _
/-! redress/move.Enabled -/
noncomputable def move_Enabled [Dfr] (x0 : List Nd) : Option (List Mv) := lim fun k => run E k 11 x0
theorem move_Enabled_lim [Dfr] (x0 : List Nd) : IsLim (fun k => run E k 11 x0) (move_Enabled x0) := .run _ _
noncomputable def move_Enabled_l2 [Dfr] (y0 : List Nd) (y3 : List (Int × List (Int × Nat))) (y4 : List Mv) (y6 : Int) (y11 : List Int) (y12 : Int) (y13 : Int) (y23 : List (Int × Nat)) (y24 : Int) (y25 : Int) : Option (Nat × (List Nd × (List (Int × List (Int × Nat))) × List Mv × List Int × Int × Int)) := lim fun k => lp E 11 2 k k (y0, y3, y4, y6, y11, y12, y13, y23, y24, y25)
theorem move_Enabled_l2_lim [Dfr] (y0 : List Nd) (y3 : List (Int × List (Int × Nat))) (y4 : List Mv) (y6 : Int) (y11 : List Int) (y12 : Int) (y13 : Int) (y23 : List (Int × Nat)) (y24 : Int) (y25 : Int) : IsLim (fun k => lp E 11 2 k k (y0, y3, y4, y6, y11, y12, y13, y23, y24, y25)) (move_Enabled_l2 y0 y3 y4 y6 y11 y12 y13 y23 y24 y25) := .lp _ _ _
noncomputable def move_Enabled_l0 [Dfr] (y0 : List Nd) (y3 : List (Int × List (Int × Nat))) (y4 : List Mv) (y11 : List Int) (y12 : Int) (y13 : Int) : Option (Nat × List Mv) := lim fun k => lp E 11 0 k k (y0, y3, y4, y11, y12, y13)
theorem move_Enabled_l0_lim [Dfr] (y0 : List Nd) (y3 : List (Int × List (Int × Nat))) (y4 : List Mv) (y11 : List Int) (y12 : Int) (y13 : Int) : IsLim (fun k => lp E 11 0 k k (y0, y3, y4, y11, y12, y13)) (move_Enabled_l0 y0 y3 y4 y11 y12 y13) := .lp _ _ _
/-! redress/move.Pick -/
noncomputable def move_Pick [Dfr] (x0 : List Nd) (x1 : Int) : Option (Mv × Int) := lim fun k => run E k 13 (x0, x1)
theorem move_Pick_lim [Dfr] (x0 : List Nd) (x1 : Int) : IsLim (fun k => run E k 13 (x0, x1)) (move_Pick x0 x1) := .run _ _
/-! redress/move.Is -/
noncomputable def move_Is [Dfr] (x0 : List Nd) (x1 : Mv) : Option (Bool) := lim fun k => run E k 15 (x0, x1)
theorem move_Is_lim [Dfr] (x0 : List Nd) (x1 : Mv) : IsLim (fun k => run E k 15 (x0, x1)) (move_Is x0 x1) := .run _ _
/-! redress/move.Text -/
noncomputable def move_Text [Dfr] (x0 : Mv) : Option (ByteArray) := lim fun k => run E k 17 x0
theorem move_Text_lim [Dfr] (x0 : Mv) : IsLim (fun k => run E k 17 x0) (move_Text x0) := .run _ _
/-! redress/redressref12.Text -/
noncomputable def ref12_Text [Dfr] (x0 : Mv) : Option (ByteArray) := lim fun k => run E k 18 x0
theorem ref12_Text_lim [Dfr] (x0 : Mv) : IsLim (fun k => run E k 18 x0) (ref12_Text x0) := .run _ _
/-! redress/doom.Active -/
noncomputable def doom_Active [Dfr] (x0 : List Nd) : Option (List Int) := lim fun k => run E k 19 x0
theorem doom_Active_lim [Dfr] (x0 : List Nd) : IsLim (fun k => run E k 19 x0) (doom_Active x0) := .run _ _
noncomputable def doom_Active_l0 [Dfr] (y1 : List Nd) (y3 : FnV) (y4 : List Int) (y11 : Int) (y12 : Int) : Option (Nat × List Int) := lim fun k => lp E 19 0 k k (y1, y3, y4, y11, y12)
theorem doom_Active_l0_lim [Dfr] (y1 : List Nd) (y3 : FnV) (y4 : List Int) (y11 : Int) (y12 : Int) : IsLim (fun k => lp E 19 0 k k (y1, y3, y4, y11, y12)) (doom_Active_l0 y1 y3 y4 y11 y12) := .lp _ _ _
/-! redress/doom.Free -/
noncomputable def doom_Free [Dfr] (x0 : List Nd) (x1 : Int) : Option (Bool) := lim fun k => run E k 20 (x0, x1)
/-! redress/move.ways -/
noncomputable def move_ways [Dfr] : Option (List (Int × List (Int × Nat))) := lim fun k => run E k 22 ()
theorem move_ways_lim [Dfr] : IsLim (fun k => run E k 22 ()) (move_ways) := .run _ _
/-! slices.Contains[[]redress/api.Move,redress/api.Move] -/
noncomputable def slices_Contains__api_Move [Dfr] (x0 : List Mv) (x1 : Mv) : Option (Bool) := lim fun k => run E k 25 (x0, x1)
theorem slices_Contains__api_Move_lim [Dfr] (x0 : List Mv) (x1 : Mv) : IsLim (fun k => run E k 25 (x0, x1)) (slices_Contains__api_Move x0 x1) := .run _ _
/-! redress/redressref12.word -/
noncomputable def ref12_word [Dfr] (x0 : Int) : Option (ByteArray) := lim fun k => run E k 27 x0
theorem ref12_word_lim [Dfr] (x0 : Int) : IsLim (fun k => run E k 27 x0) (ref12_word x0) := .run _ _
/-! redress/redressref12.Digits -/
noncomputable def ref12_Digits [Dfr] (x0 : Int) : Option (ByteArray) := lim fun k => run E k 28 x0
theorem ref12_Digits_lim [Dfr] (x0 : Int) : IsLim (fun k => run E k 28 x0) (ref12_Digits x0) := .run _ _
noncomputable def ref12_Digits_l0 [Dfr] (y0 : Int) (y2 : ByteArray) (y3 : ByteArray) (y4 : ByteArray) (y5 : ByteArray) : Option (Nat × ByteArray) := lim fun k => lp E 28 0 k k (y0, y2, y3, y4, y5)
theorem ref12_Digits_l0_lim [Dfr] (y0 : Int) (y2 : ByteArray) (y3 : ByteArray) (y4 : ByteArray) (y5 : ByteArray) : IsLim (fun k => lp E 28 0 k k (y0, y2, y3, y4, y5)) (ref12_Digits_l0 y0 y2 y3 y4 y5) := .lp _ _ _
/-! redress/settle.Settled -/
noncomputable def settle_Settled [Dfr] (x0 : List Nd) : Option (Bool) := lim fun k => run E k 29 x0
theorem settle_Settled_lim [Dfr] (x0 : List Nd) : IsLim (fun k => run E k 29 x0) (settle_Settled x0) := .run _ _
/-! redress/doom.Active$1 -/
noncomputable def doom_Active_1 [Dfr] (x0 : Int) (x1 : List Nd) : Option (Bool) := lim fun k => run E k 30 (x0, x1)
/-! slices.ContainsFunc[[]int,int] -/
noncomputable def slices_ContainsFunc__int [Dfr] (x0 : List Int) (x1 : FnV) : Option (Bool) := lim fun k => run E k 31 (x0, x1)
theorem slices_ContainsFunc__int_lim [Dfr] (x0 : List Int) (x1 : FnV) : IsLim (fun k => run E k 31 (x0, x1)) (slices_ContainsFunc__int x0 x1) := .run _ _
/-! redress/plot.Over -/
noncomputable def plot_Over [Dfr] (x0 : List Nd) (x1 : Int) : Option (List Int) := lim fun k => run E k 32 (x0, x1)
theorem plot_Over_lim [Dfr] (x0 : List Nd) (x1 : Int) : IsLim (fun k => run E k 32 (x0, x1)) (plot_Over x0 x1) := .run _ _
/-! redress/doom.Active$1$1 -/
noncomputable def doom_Active_1_1 [Dfr] (x0 : Int) (x1 : List Nd) (x2 : Int) : Option (Bool) := lim fun k => run E k 33 (x0, x1, x2)
/-! redress/doom.kid -/
noncomputable def doom_kid [Dfr] (x0 : List Nd) (x1 : Int) (x2 : Int) : Option (Int) := lim fun k => run E k 34 (x0, x1, x2)
theorem doom_kid_lim [Dfr] (x0 : List Nd) (x1 : Int) (x2 : Int) : IsLim (fun k => run E k 34 (x0, x1, x2)) (doom_kid x0 x1 x2) := .run _ _
noncomputable def doom_kid_l0 [Dfr] (y2 : Int) (y6 : Int) (y16 : List (List Nd)) (y17 : Int) (y18 : Int) : Option (Nat × Int) := lim fun k => lp E 34 0 k k (y2, y6, y16, y17, y18)
theorem doom_kid_l0_lim [Dfr] (y2 : Int) (y6 : Int) (y16 : List (List Nd)) (y17 : Int) (y18 : Int) : IsLim (fun k => lp E 34 0 k k (y2, y6, y16, y17, y18)) (doom_kid_l0 y2 y6 y16 y17 y18) := .lp _ _ _
/-! redress/doom.goes -/
noncomputable def doom_goes [Dfr] (x0 : Nd) : Option (Int) := lim fun k => run E k 35 x0
theorem doom_goes_lim [Dfr] (x0 : Nd) : IsLim (fun k => run E k 35 x0) (doom_goes x0) := .run _ _
/-! redress/row.Count -/
noncomputable def row_Count [Dfr] (x0 : List Nd) (x1 : List Int) : Option (Int) := lim fun k => run E k 36 (x0, x1)
theorem row_Count_lim [Dfr] (x0 : List Nd) (x1 : List Int) : IsLim (fun k => run E k 36 (x0, x1)) (row_Count x0 x1) := .run _ _
noncomputable def row_Count_l0 [Dfr] (y1 : List Int) (y5 : Int) (y8 : List Nd) (y9 : Int) (y10 : Int) : Option (Nat × Int) := lim fun k => lp E 36 0 k k (y1, y5, y8, y9, y10)
theorem row_Count_l0_lim [Dfr] (y1 : List Int) (y5 : Int) (y8 : List Nd) (y9 : Int) (y10 : Int) : IsLim (fun k => lp E 36 0 k k (y1, y5, y8, y9, y10)) (row_Count_l0 y1 y5 y8 y9 y10) := .lp _ _ _
/-! redress/doom.beside -/
noncomputable def doom_beside [Dfr] (x0 : List Nd) (x1 : Int) : Option (List (List Nd) × Bool) := lim fun k => run E k 37 (x0, x1)
theorem doom_beside_lim [Dfr] (x0 : List Nd) (x1 : Int) : IsLim (fun k => run E k 37 (x0, x1)) (doom_beside x0 x1) := .run _ _
noncomputable def doom_beside_l0 [Dfr] (y0 : List Nd) (y1 : Int) (y4 : List (List Nd)) (y5 : Bool) (y19 : List Int) (y20 : Int) (y21 : Int) : Option (Nat × (List (List Nd) × Bool)) := lim fun k => lp E 37 0 k k (y0, y1, y4, y5, y19, y20, y21)
theorem doom_beside_l0_lim [Dfr] (y0 : List Nd) (y1 : Int) (y4 : List (List Nd)) (y5 : Bool) (y19 : List Int) (y20 : Int) (y21 : Int) : IsLim (fun k => lp E 37 0 k k (y0, y1, y4, y5, y19, y20, y21)) (doom_beside_l0 y0 y1 y4 y5 y19 y20 y21) := .lp _ _ _
/-! slices.ContainsFunc[[][]redress/api.Node,[]redress/api.Node] -/
noncomputable def slices_ContainsFunc__Sapi_Node [Dfr] (x0 : List (List Nd)) (x1 : FnV) : Option (Bool) := lim fun k => run E k 38 (x0, x1)
theorem slices_ContainsFunc__Sapi_Node_lim [Dfr] (x0 : List (List Nd)) (x1 : FnV) : IsLim (fun k => run E k 38 (x0, x1)) (slices_ContainsFunc__Sapi_Node x0 x1) := .run _ _
/-! redress/doom.Doomed -/
noncomputable def doom_Doomed [Dfr] (x0 : List Nd) : Option (Bool) := lim fun k => run E k 39 x0
/-! redress/move.always -/
noncomputable def move_always [Dfr] (x0 : List Nd) (x1 : Int) : Option (Bool) := lim fun k => run E k 41 (x0, x1)
/-! slices.Index[[]redress/api.Move,redress/api.Move] -/
noncomputable def slices_Index__api_Move [Dfr] (x0 : List Mv) (x1 : Mv) : Option (Int) := lim fun k => run E k 47 (x0, x1)
theorem slices_Index__api_Move_lim [Dfr] (x0 : List Mv) (x1 : Mv) : IsLim (fun k => run E k 47 (x0, x1)) (slices_Index__api_Move x0 x1) := .run _ _
noncomputable def slices_Index__api_Move_l0 [Dfr] (y0 : List Mv) (y3 : Mv) (y4 : Int) (y7 : Int) (y8 : Int) : Option (Nat × Int) := lim fun k => lp E 47 0 k k (y0, y3, y4, y7, y8)
theorem slices_Index__api_Move_l0_lim [Dfr] (y0 : List Mv) (y3 : Mv) (y4 : Int) (y7 : Int) (y8 : Int) : IsLim (fun k => lp E 47 0 k k (y0, y3, y4, y7, y8)) (slices_Index__api_Move_l0 y0 y3 y4 y7 y8) := .lp _ _ _
/-! redress/row.Same -/
noncomputable def row_Same [Dfr] (x0 : List Nd) (x1 : List Nd) : Option (Bool) := lim fun k => run E k 49 (x0, x1)
theorem row_Same_lim [Dfr] (x0 : List Nd) (x1 : List Nd) : IsLim (fun k => run E k 49 (x0, x1)) (row_Same x0 x1) := .run _ _
/-! redress/settle.Settle -/
noncomputable def settle_Settle [Dfr] (x0 : List Nd) : Option (List Nd) := lim fun k => run E k 50 x0
theorem settle_Settle_lim [Dfr] (x0 : List Nd) : IsLim (fun k => run E k 50 x0) (settle_Settle x0) := .run _ _
/-! slices.IndexFunc[[]int,int] -/
noncomputable def slices_IndexFunc__int [Dfr] (x0 : List Int) (x1 : FnV) : Option (Int) := lim fun k => run E k 51 (x0, x1)
theorem slices_IndexFunc__int_lim [Dfr] (x0 : List Int) (x1 : FnV) : IsLim (fun k => run E k 51 (x0, x1)) (slices_IndexFunc__int x0 x1) := .run _ _
noncomputable def slices_IndexFunc__int_l0 [Dfr] (y0 : List Int) (y1 : FnV) (y4 : Int) (y7 : Int) (y8 : Int) : Option (Nat × Int) := lim fun k => lp E 51 0 k k (y0, y1, y4, y7, y8)
theorem slices_IndexFunc__int_l0_lim [Dfr] (y0 : List Int) (y1 : FnV) (y4 : Int) (y7 : Int) (y8 : Int) : IsLim (fun k => lp E 51 0 k k (y0, y1, y4, y7, y8)) (slices_IndexFunc__int_l0 y0 y1 y4 y7 y8) := .lp _ _ _
/-! redress/row.Kids -/
noncomputable def row_Kids [Dfr] (x0 : List Nd) : Option (List (List Nd)) := lim fun k => run E k 53 x0
theorem row_Kids_lim [Dfr] (x0 : List Nd) : IsLim (fun k => run E k 53 x0) (row_Kids x0) := .run _ _
noncomputable def row_Kids_l0 [Dfr] (y0 : List Nd) (y3 : List (List Nd)) (y4 : Int) (y13 : Int) (y14 : Int) : Option (Nat × List (List Nd)) := lim fun k => lp E 53 0 k k (y0, y3, y4, y13, y14)
theorem row_Kids_l0_lim [Dfr] (y0 : List Nd) (y3 : List (List Nd)) (y4 : Int) (y13 : Int) (y14 : Int) : IsLim (fun k => lp E 53 0 k k (y0, y3, y4, y13, y14)) (row_Kids_l0 y0 y3 y4 y13 y14) := .lp _ _ _
/-! slices.Contains[[]int,int] -/
noncomputable def slices_Contains__int [Dfr] (x0 : List Int) (x1 : Int) : Option (Bool) := lim fun k => run E k 54 (x0, x1)
theorem slices_Contains__int_lim [Dfr] (x0 : List Int) (x1 : Int) : IsLim (fun k => run E k 54 (x0, x1)) (slices_Contains__int x0 x1) := .run _ _
/-! slices.IndexFunc[[][]redress/api.Node,[]redress/api.Node] -/
noncomputable def slices_IndexFunc__Sapi_Node [Dfr] (x0 : List (List Nd)) (x1 : FnV) : Option (Int) := lim fun k => run E k 56 (x0, x1)
theorem slices_IndexFunc__Sapi_Node_lim [Dfr] (x0 : List (List Nd)) (x1 : FnV) : IsLim (fun k => run E k 56 (x0, x1)) (slices_IndexFunc__Sapi_Node x0 x1) := .run _ _
noncomputable def slices_IndexFunc__Sapi_Node_l0 [Dfr] (y0 : List (List Nd)) (y1 : FnV) (y4 : Int) (y7 : Int) (y8 : Int) : Option (Nat × Int) := lim fun k => lp E 56 0 k k (y0, y1, y4, y7, y8)
theorem slices_IndexFunc__Sapi_Node_l0_lim [Dfr] (y0 : List (List Nd)) (y1 : FnV) (y4 : Int) (y7 : Int) (y8 : Int) : IsLim (fun k => lp E 56 0 k k (y0, y1, y4, y7, y8)) (slices_IndexFunc__Sapi_Node_l0 y0 y1 y4 y7 y8) := .lp _ _ _
/-! redress/doom.doomed -/
noncomputable def doom_doomed [Dfr] (x0 : List Nd) : Option (Bool) := lim fun k => run E k 57 x0
theorem doom_doomed_lim [Dfr] (x0 : List Nd) : IsLim (fun k => run E k 57 x0) (doom_doomed x0) := .run _ _
/-! slices.Equal[[]redress/api.Node,redress/api.Node] -/
noncomputable def slices_Equal__api_Node [Dfr] (x0 : List Nd) (x1 : List Nd) : Option (Bool) := lim fun k => run E k 65 (x0, x1)
theorem slices_Equal__api_Node_lim [Dfr] (x0 : List Nd) (x1 : List Nd) : IsLim (fun k => run E k 65 (x0, x1)) (slices_Equal__api_Node x0 x1) := .run _ _
noncomputable def slices_Equal__api_Node_l0 [Dfr] (y0 : List Nd) (y1 : List Nd) (y4 : Bool) (y12 : Int) (y13 : Int) : Option (Nat × Bool) := lim fun k => lp E 65 0 k k (y0, y1, y4, y12, y13)
theorem slices_Equal__api_Node_l0_lim [Dfr] (y0 : List Nd) (y1 : List Nd) (y4 : Bool) (y12 : Int) (y13 : Int) : IsLim (fun k => lp E 65 0 k k (y0, y1, y4, y12, y13)) (slices_Equal__api_Node_l0 y0 y1 y4 y12 y13) := .lp _ _ _
/-! redress/sort.On -/
noncomputable def sort_On [Dfr] (x0 : List Nd) (x1 : Bool) : Option (Bool) := lim fun k => run E k 66 (x0, x1)
theorem sort_On_lim [Dfr] (x0 : List Nd) (x1 : Bool) : IsLim (fun k => run E k 66 (x0, x1)) (sort_On x0 x1) := .run _ _
/-! redress/settle.settle -/
noncomputable def settle_settle [Dfr] (x0 : List Nd) : Option (List Nd) := lim fun k => run E k 67 x0
theorem settle_settle_lim [Dfr] (x0 : List Nd) : IsLim (fun k => run E k 67 x0) (settle_settle x0) := .run _ _
/-! redress/plot.one -/
noncomputable def plot_one [Dfr] (x0 : List Nd) : Option (Bool) := lim fun k => run E k 69 x0
theorem plot_one_lim [Dfr] (x0 : List Nd) : IsLim (fun k => run E k 69 x0) (plot_one x0) := .run _ _
/-! redress/row.Arity -/
noncomputable def row_Arity [Dfr] (x0 : Int) : Option (Int) := lim fun k => run E k 70 x0
theorem row_Arity_lim [Dfr] (x0 : Int) : IsLim (fun k => run E k 70 x0) (row_Arity x0) := .run _ _
/-! redress/row.Size -/
noncomputable def row_Size [Dfr] (x0 : List Nd) : Option (Int) := lim fun k => run E k 71 x0
theorem row_Size_lim [Dfr] (x0 : List Nd) : IsLim (fun k => run E k 71 x0) (row_Size x0) := .run _ _
noncomputable def row_Size_l0 [Dfr] (y2 : Int) (y3 : Int) (y7 : List Nd) (y8 : Int) (y9 : Int) : Option (Nat × Int) := lim fun k => lp E 71 0 k k (y2, y3, y7, y8, y9)
theorem row_Size_l0_lim [Dfr] (y2 : Int) (y3 : Int) (y7 : List Nd) (y8 : Int) (y9 : Int) : IsLim (fun k => lp E 71 0 k k (y2, y3, y7, y8, y9)) (row_Size_l0 y2 y3 y7 y8 y9) := .lp _ _ _
/-! slices.Clone[[]redress/api.Node,redress/api.Node] -/
noncomputable def slices_Clone__api_Node [Dfr] (x0 : List Nd) : Option (List Nd) := lim fun k => run E k 72 x0
theorem slices_Clone__api_Node_lim [Dfr] (x0 : List Nd) : IsLim (fun k => run E k 72 x0) (slices_Clone__api_Node x0) := .run _ _
/-! slices.Index[[]int,int] -/
noncomputable def slices_Index__int [Dfr] (x0 : List Int) (x1 : Int) : Option (Int) := lim fun k => run E k 73 (x0, x1)
theorem slices_Index__int_lim [Dfr] (x0 : List Int) (x1 : Int) : IsLim (fun k => run E k 73 (x0, x1)) (slices_Index__int x0 x1) := .run _ _
noncomputable def slices_Index__int_l0 [Dfr] (y0 : List Int) (y1 : Int) (y4 : Int) (y7 : Int) (y8 : Int) : Option (Nat × Int) := lim fun k => lp E 73 0 k k (y0, y1, y4, y7, y8)
theorem slices_Index__int_l0_lim [Dfr] (y0 : List Int) (y1 : Int) (y4 : Int) (y7 : Int) (y8 : Int) : IsLim (fun k => lp E 73 0 k k (y0, y1, y4, y7, y8)) (slices_Index__int_l0 y0 y1 y4 y7 y8) := .lp _ _ _
/-! redress/sort.on -/
noncomputable def sort_on [Dfr] (x0 : Int) : Option (Int) := lim fun k => run E k 81 x0
theorem sort_on_lim [Dfr] (x0 : Int) : IsLim (fun k => run E k 81 x0) (sort_on x0) := .run _ _
/-! redress/sort.Of -/
noncomputable def sort_Of [Dfr] (x0 : List Nd) : Option (Int) := lim fun k => run E k 82 x0
theorem sort_Of_lim [Dfr] (x0 : List Nd) : IsLim (fun k => run E k 82 x0) (sort_Of x0) := .run _ _
/-! redress/settle.over -/
noncomputable def settle_over [Dfr] (x0 : Int) : Option (List Nd) := lim fun k => run E k 83 x0
theorem settle_over_lim [Dfr] (x0 : Int) : IsLim (fun k => run E k 83 x0) (settle_over x0) := .run _ _
/-! redress/settle.behind -/
noncomputable def settle_behind [Dfr] (x0 : Nd) (x1 : List Nd) (x2 : List Nd) (x3 : Int) : Option (List Nd) := lim fun k => run E k 84 (x0, x1, x2, x3)
theorem settle_behind_lim [Dfr] (x0 : Nd) (x1 : List Nd) (x2 : List Nd) (x3 : Int) : IsLim (fun k => run E k 84 (x0, x1, x2, x3)) (settle_behind x0 x1 x2 x3) := .run _ _
/-! redress/settle.stack -/
noncomputable def settle_stack [Dfr] (x0 : List Nd) (x1 : List Nd) : Option (List Nd) := lim fun k => run E k 85 (x0, x1)
theorem settle_stack_lim [Dfr] (x0 : List Nd) (x1 : List Nd) : IsLim (fun k => run E k 85 (x0, x1)) (settle_stack x0 x1) := .run _ _
/-! redress/settle.Ended -/
noncomputable def settle_Ended [Dfr] (x0 : List Nd) : Option (Int × Bool) := lim fun k => run E k 86 x0
theorem settle_Ended_lim [Dfr] (x0 : List Nd) : IsLim (fun k => run E k 86 x0) (settle_Ended x0) := .run _ _
/-! redress/row.Make -/
noncomputable def row_Make [Dfr] (x0 : Nd) (x1 : List (List Nd)) : Option (List Nd) := lim fun k => run E k 87 (x0, x1)
theorem row_Make_lim [Dfr] (x0 : Nd) (x1 : List (List Nd)) : IsLim (fun k => run E k 87 (x0, x1)) (row_Make x0 x1) := .run _ _
/-! redress/settle.end -/
noncomputable def settle_end [Dfr] (x0 : Int) (x1 : List Nd) : Option (List Nd) := lim fun k => run E k 88 (x0, x1)
theorem settle_end_lim [Dfr] (x0 : Int) (x1 : List Nd) : IsLim (fun k => run E k 88 (x0, x1)) (settle_end x0 x1) := .run _ _
/-! redress/settle.par -/
noncomputable def settle_par [Dfr] (x0 : Nd) (x1 : List Nd) (x2 : List Nd) : Option (List Nd) := lim fun k => run E k 89 (x0, x1, x2)
theorem settle_par_lim [Dfr] (x0 : Nd) (x1 : List Nd) (x2 : List Nd) : IsLim (fun k => run E k 89 (x0, x1, x2)) (settle_par x0 x1 x2) := .run _ _
/-! redress/settle.block -/
noncomputable def settle_block [Dfr] (x0 : Nd) (x1 : List Nd) : Option (List Nd) := lim fun k => run E k 90 (x0, x1)
theorem settle_block_lim [Dfr] (x0 : Nd) (x1 : List Nd) : IsLim (fun k => run E k 90 (x0, x1)) (settle_block x0 x1) := .run _ _
/-! redress/row.Whole -/
noncomputable def row_Whole [Dfr] (x0 : List Nd) : Option (Bool) := lim fun k => run E k 102 x0
theorem row_Whole_lim [Dfr] (x0 : List Nd) : IsLim (fun k => run E k 102 x0) (row_Whole x0) := .run _ _
/-! redress/sort.sort -/
noncomputable def sort_sort [Dfr] (x0 : List Nd) : Option (Int) := lim fun k => run E k 103 x0
theorem sort_sort_lim [Dfr] (x0 : List Nd) : IsLim (fun k => run E k 103 x0) (sort_sort x0) := .run _ _
noncomputable def sort_sort_l0 [Dfr] (y0 : List Nd) (y2 : Int) (y3 : List Int) (y8 : List (List Nd)) (y9 : Int) (y10 : Int) : Option (Nat × (List Nd × Int × List Int)) := lim fun k => lp E 103 0 k k (y0, y2, y3, y8, y9, y10)
theorem sort_sort_l0_lim [Dfr] (y0 : List Nd) (y2 : Int) (y3 : List Int) (y8 : List (List Nd)) (y9 : Int) (y10 : Int) : IsLim (fun k => lp E 103 0 k k (y0, y2, y3, y8, y9, y10)) (sort_sort_l0 y0 y2 y3 y8 y9 y10) := .lp _ _ _
/-! slices.Concat[[]redress/api.Node,redress/api.Node] -/
noncomputable def slices_Concat__api_Node [Dfr] (x0 : List (List Nd)) : Option (List Nd) := lim fun k => run E k 104 x0
theorem slices_Concat__api_Node_lim [Dfr] (x0 : List (List Nd)) : IsLim (fun k => run E k 104 x0) (slices_Concat__api_Node x0) := .run _ _
noncomputable def slices_Concat__api_Node_l0 [Dfr] (y0 : List (List Nd)) (y3 : Int) (y9 : List (List Nd)) (y10 : Int) (y11 : Int) : Option (Nat × (List (List Nd) × Int)) := lim fun k => lp E 104 0 k k (y0, y3, y9, y10, y11)
theorem slices_Concat__api_Node_l0_lim [Dfr] (y0 : List (List Nd)) (y3 : Int) (y9 : List (List Nd)) (y10 : Int) (y11 : Int) : IsLim (fun k => lp E 104 0 k k (y0, y3, y9, y10, y11)) (slices_Concat__api_Node_l0 y0 y3 y9 y10 y11) := .lp _ _ _
noncomputable def slices_Concat__api_Node_l2 [Dfr] (y6 : List Nd) (y25 : List (List Nd)) (y26 : Int) (y27 : Int) : Option (Nat × List Nd) := lim fun k => lp E 104 2 k k (y6, y25, y26, y27)
theorem slices_Concat__api_Node_l2_lim [Dfr] (y6 : List Nd) (y25 : List (List Nd)) (y26 : Int) (y27 : Int) : IsLim (fun k => lp E 104 2 k k (y6, y25, y26, y27)) (slices_Concat__api_Node_l2 y6 y25 y26 y27) := .lp _ _ _
/-! redress/sign.Both -/
noncomputable def sign_Both [Dfr] (x0 : Int) (x1 : Int) : Option (Int) := lim fun k => run E k 105 (x0, x1)
theorem sign_Both_lim [Dfr] (x0 : Int) (x1 : Int) : IsLim (fun k => run E k 105 (x0, x1)) (sign_Both x0 x1) := .run _ _
/-! redress/row.Whole$1 -/
noncomputable def row_Whole_1 [Dfr] (x0 : Nd) : Option (Bool) := lim fun k => run E k 118 x0
/-! redress/row.Right -/
noncomputable def row_Right [Dfr] (x0 : Nd) : Option (Bool) := lim fun k => run E k 119 x0
theorem row_Right_lim [Dfr] (x0 : Nd) : IsLim (fun k => run E k 119 x0) (row_Right x0) := .run _ _
/-! slices.ContainsFunc[[]redress/api.Node,redress/api.Node] -/
noncomputable def slices_ContainsFunc__api_Node [Dfr] (x0 : List Nd) (x1 : FnV) : Option (Bool) := lim fun k => run E k 120 (x0, x1)
theorem slices_ContainsFunc__api_Node_lim [Dfr] (x0 : List Nd) (x1 : FnV) : IsLim (fun k => run E k 120 (x0, x1)) (slices_ContainsFunc__api_Node x0 x1) := .run _ _
/-! redress/sort.both -/
noncomputable def sort_both [Dfr] (x0 : Int) (x1 : Int) : Option (Int) := lim fun k => run E k 121 (x0, x1)
theorem sort_both_lim [Dfr] (x0 : Int) (x1 : Int) : IsLim (fun k => run E k 121 (x0, x1)) (sort_both x0 x1) := .run _ _
/-! redress/sort.behind -/
noncomputable def sort_behind [Dfr] (x0 : Int) (x1 : Int) (x2 : Int) : Option (Int) := lim fun k => run E k 122 (x0, x1, x2)
theorem sort_behind_lim [Dfr] (x0 : Int) (x1 : Int) (x2 : Int) : IsLim (fun k => run E k 122 (x0, x1, x2)) (sort_behind x0 x1 x2) := .run _ _
/-! slices.Grow[[]redress/api.Node,redress/api.Node] -/
noncomputable def slices_Grow__api_Node [Dfr] (x0 : Unit) (x1 : Int) : Option (List Nd) := lim fun k => run E k 123 (x0, x1)
theorem slices_Grow__api_Node_lim [Dfr] (x0 : Unit) (x1 : Int) : IsLim (fun k => run E k 123 (x0, x1)) (slices_Grow__api_Node x0 x1) := .run _ _
/-! redress/sign.Is -/
noncomputable def sign_Is [Dfr] (x0 : Int) : Option (Bool) := lim fun k => run E k 124 x0
theorem sign_Is_lim [Dfr] (x0 : Int) : IsLim (fun k => run E k 124 x0) (sign_Is x0) := .run _ _
/-! redress/row.named -/
noncomputable def row_named [Dfr] (x0 : ByteArray) : Option (Bool) := lim fun k => run E k 127 x0
theorem row_named_lim [Dfr] (x0 : ByteArray) : IsLim (fun k => run E k 127 x0) (row_named x0) := .run _ _
/-! slices.IndexFunc[[]redress/api.Node,redress/api.Node] -/
noncomputable def slices_IndexFunc__api_Node [Dfr] (x0 : List Nd) (x1 : FnV) : Option (Int) := lim fun k => run E k 128 (x0, x1)
theorem slices_IndexFunc__api_Node_lim [Dfr] (x0 : List Nd) (x1 : FnV) : IsLim (fun k => run E k 128 (x0, x1)) (slices_IndexFunc__api_Node x0 x1) := .run _ _
noncomputable def slices_IndexFunc__api_Node_l0 [Dfr] (y0 : List Nd) (y1 : FnV) (y4 : Int) (y7 : Int) (y8 : Int) : Option (Nat × Int) := lim fun k => lp E 128 0 k k (y0, y1, y4, y7, y8)
theorem slices_IndexFunc__api_Node_l0_lim [Dfr] (y0 : List Nd) (y1 : FnV) (y4 : Int) (y7 : Int) (y8 : Int) : IsLim (fun k => lp E 128 0 k k (y0, y1, y4, y7, y8)) (slices_IndexFunc__api_Node_l0 y0 y1 y4 y7 y8) := .lp _ _ _
/-! strings.Trim -/
noncomputable def strings_Trim [Dfr] (x0 : ByteArray) (x1 : ByteArray) : Option (ByteArray) := lim fun k => run E k 129 (x0, x1)
theorem strings_Trim_lim [Dfr] (x0 : ByteArray) (x1 : ByteArray) : IsLim (fun k => run E k 129 (x0, x1)) (strings_Trim x0 x1) := .run _ _
/-! slices.Contains[[]string,string] -/
noncomputable def slices_Contains__string [Dfr] (x0 : List ByteArray) (x1 : ByteArray) : Option (Bool) := lim fun k => run E k 130 (x0, x1)
theorem slices_Contains__string_lim [Dfr] (x0 : List ByteArray) (x1 : ByteArray) : IsLim (fun k => run E k 130 (x0, x1)) (slices_Contains__string x0 x1) := .run _ _
/-! slices.Index[[]string,string] -/
noncomputable def slices_Index__string [Dfr] (x0 : List ByteArray) (x1 : ByteArray) : Option (Int) := lim fun k => run E k 138 (x0, x1)
theorem slices_Index__string_lim [Dfr] (x0 : List ByteArray) (x1 : ByteArray) : IsLim (fun k => run E k 138 (x0, x1)) (slices_Index__string x0 x1) := .run _ _
noncomputable def slices_Index__string_l0 [Dfr] (y0 : List ByteArray) (y1 : ByteArray) (y4 : Int) (y7 : Int) (y8 : Int) : Option (Nat × Int) := lim fun k => lp E 138 0 k k (y0, y1, y4, y7, y8)
theorem slices_Index__string_l0_lim [Dfr] (y0 : List ByteArray) (y1 : ByteArray) (y4 : Int) (y7 : Int) (y8 : Int) : IsLim (fun k => lp E 138 0 k k (y0, y1, y4, y7, y8)) (slices_Index__string_l0 y0 y1 y4 y7 y8) := .lp _ _ _
end Go.Proofs.YtgogodeknkoalaaGreatDoor.Sv
