/- The functions of the seat by name, as the evaluator tells them: what each tells in the end, and its equation, checked by the kernel. Written by a program (gen.py, emit3.py). -/
import Derived.Test.YtdbabacjmkfkgaaGreatDoorSvE
namespace Go.Proofs.YtdbabacjmkfkgaaGreatDoor.Sv
open Go Go.Sv Go.Proofs
set_option linter.unusedVariables false
set_option maxRecDepth 100000
/-! redress/redresslaw11.DoomActive -/
noncomputable def law11_DoomActive [Dfr] (x0 : List Nd) : Option (Bool) := lim fun k => run E k 3 x0
/-! redress/redresslaw11.DoomFree -/
noncomputable def law11_DoomFree [Dfr] (x0 : List Nd) (x1 : Int) : Option (Bool) := lim fun k => run E k 4 (x0, x1)
noncomputable def law11_DoomFree_l0 [Dfr] (y0 : List Nd) (y1 : Int) (y4 : Bool) (y5 : List (List Nd)) (y6 : List (List Nd)) (y24 : Int) (y25 : Int) : Option (Nat × (List Nd × Int × Bool)) := lim fun k => lp E 4 0 k k (y0, y1, y4, y5, y6, y24, y25)
theorem law11_DoomFree_l0_lim [Dfr] (y0 : List Nd) (y1 : Int) (y4 : Bool) (y5 : List (List Nd)) (y6 : List (List Nd)) (y24 : Int) (y25 : Int) : IsLim (fun k => lp E 4 0 k k (y0, y1, y4, y5, y6, y24, y25)) (law11_DoomFree_l0 y0 y1 y4 y5 y6 y24 y25) := .lp _ _ _
/-! redress/redresslaw11.DoomMeans -/
noncomputable def law11_DoomMeans [Dfr] (x0 : List Nd) : Option (Bool) := lim fun k => run E k 5 x0
noncomputable def law11_DoomMeans_l0 [Dfr] (y2 : Bool) (y4 : Int) (y32 : List (Tc × Tc)) (y33 : Int) (y34 : Int) : Option (Nat × (Bool × Int)) := lim fun k => lp E 5 0 k k (y2, y4, y32, y33, y34)
theorem law11_DoomMeans_l0_lim [Dfr] (y2 : Bool) (y4 : Int) (y32 : List (Tc × Tc)) (y33 : Int) (y34 : Int) : IsLim (fun k => lp E 5 0 k k (y2, y4, y32, y33, y34)) (law11_DoomMeans_l0 y2 y4 y32 y33 y34) := .lp _ _ _
noncomputable def law11_DoomMeans_l2 [Dfr] (y2 : Bool) (y8 : Int) (y53 : List Tc) (y54 : Int) (y55 : Int) : Option (Nat × (Bool × Int)) := lim fun k => lp E 5 2 k k (y2, y8, y53, y54, y55)
theorem law11_DoomMeans_l2_lim [Dfr] (y2 : Bool) (y8 : Int) (y53 : List Tc) (y54 : Int) (y55 : Int) : IsLim (fun k => lp E 5 2 k k (y2, y8, y53, y54, y55)) (law11_DoomMeans_l2 y2 y8 y53 y54 y55) := .lp _ _ _
/-! redress/redresslaw11.few -/
noncomputable def law11_few [Dfr] (x0 : List Nd) : Option (Bool) := lim fun k => run E k 6 x0
theorem law11_few_lim [Dfr] (x0 : List Nd) : IsLim (fun k => run E k 6 x0) (law11_few x0) := .run _ _
/-! redress/redresslaw11.alive -/
noncomputable def law11_alive [Dfr] : Option (Bool) := lim fun k => run E k 7 ()
theorem law11_alive_lim [Dfr] : IsLim (fun k => run E k 7 ()) (law11_alive) := .run _ _
/-! redress/redressref11.Ints -/
noncomputable def ref11_Ints [Dfr] (x0 : List Int) (x1 : List Int) : Option (Bool) := lim fun k => run E k 8 (x0, x1)
theorem ref11_Ints_lim [Dfr] (x0 : List Int) (x1 : List Int) : IsLim (fun k => run E k 8 (x0, x1)) (ref11_Ints x0 x1) := .run _ _
noncomputable def ref11_Ints_l0 [Dfr] (y0 : List Int) (y1 : List Int) (y4 : Bool) (y5 : Int) : Option (Nat × Bool) := lim fun k => lp E 8 0 k k (y0, y1, y4, y5)
theorem ref11_Ints_l0_lim [Dfr] (y0 : List Int) (y1 : List Int) (y4 : Bool) (y5 : Int) : IsLim (fun k => lp E 8 0 k k (y0, y1, y4, y5)) (ref11_Ints_l0 y0 y1 y4 y5) := .lp _ _ _
/-! redress/doom.Active -/
noncomputable def doom_Active [Dfr] (x0 : List Nd) : Option (List Int) := lim fun k => run E k 9 x0
theorem doom_Active_lim [Dfr] (x0 : List Nd) : IsLim (fun k => run E k 9 x0) (doom_Active x0) := .run _ _
noncomputable def doom_Active_l0 [Dfr] (y1 : List Nd) (y3 : FnV) (y4 : List Int) (y11 : Int) (y12 : Int) : Option (Nat × List Int) := lim fun k => lp E 9 0 k k (y1, y3, y4, y11, y12)
theorem doom_Active_l0_lim [Dfr] (y1 : List Nd) (y3 : FnV) (y4 : List Int) (y11 : Int) (y12 : Int) : IsLim (fun k => lp E 9 0 k k (y1, y3, y4, y11, y12)) (doom_Active_l0 y1 y3 y4 y11 y12) := .lp _ _ _
/-! redress/redressref11.Active -/
noncomputable def ref11_Active [Dfr] (x0 : List Nd) : Option (List Int) := lim fun k => run E k 10 x0
theorem ref11_Active_lim [Dfr] (x0 : List Nd) : IsLim (fun k => run E k 10 x0) (ref11_Active x0) := .run _ _
/-! redress/doom.Doomed -/
noncomputable def doom_Doomed [Dfr] (x0 : List Nd) : Option (Bool) := lim fun k => run E k 11 x0
theorem doom_Doomed_lim [Dfr] (x0 : List Nd) : IsLim (fun k => run E k 11 x0) (doom_Doomed x0) := .run _ _
/-! redress/redressref11.Doomed -/
noncomputable def ref11_Doomed [Dfr] (x0 : List Nd) : Option (Bool) := lim fun k => run E k 12 x0
theorem ref11_Doomed_lim [Dfr] (x0 : List Nd) : IsLim (fun k => run E k 12 x0) (ref11_Doomed x0) := .run _ _
/-! redress/doom.Beside -/
noncomputable def doom_Beside [Dfr] (x0 : List Nd) (x1 : Int) : Option (List (List Nd)) := lim fun k => run E k 13 (x0, x1)
theorem doom_Beside_lim [Dfr] (x0 : List Nd) (x1 : Int) : IsLim (fun k => run E k 13 (x0, x1)) (doom_Beside x0 x1) := .run _ _
/-! redress/redressref11.Beside -/
noncomputable def ref11_Beside [Dfr] (x0 : List Nd) (x1 : Int) : Option (List (List Nd)) := lim fun k => run E k 14 (x0, x1)
theorem ref11_Beside_lim [Dfr] (x0 : List Nd) (x1 : Int) : IsLim (fun k => run E k 14 (x0, x1)) (ref11_Beside x0 x1) := .run _ _
/-! redress/redressref03.Same -/
noncomputable def ref03_Same [Dfr] (x0 : List Nd) (x1 : List Nd) : Option (Bool) := lim fun k => run E k 15 (x0, x1)
theorem ref03_Same_lim [Dfr] (x0 : List Nd) (x1 : List Nd) : IsLim (fun k => run E k 15 (x0, x1)) (ref03_Same x0 x1) := .run _ _
noncomputable def ref03_Same_l0 [Dfr] (y0 : List Nd) (y1 : List Nd) (y4 : Bool) (y5 : Int) : Option (Nat × Bool) := lim fun k => lp E 15 0 k k (y0, y1, y4, y5)
theorem ref03_Same_l0_lim [Dfr] (y0 : List Nd) (y1 : List Nd) (y4 : Bool) (y5 : Int) : IsLim (fun k => lp E 15 0 k k (y0, y1, y4, y5)) (ref03_Same_l0 y0 y1 y4 y5) := .lp _ _ _
/-! redress/doom.Free -/
noncomputable def doom_Free [Dfr] (x0 : List Nd) (x1 : Int) : Option (Bool) := lim fun k => run E k 16 (x0, x1)
theorem doom_Free_lim [Dfr] (x0 : List Nd) (x1 : Int) : IsLim (fun k => run E k 16 (x0, x1)) (doom_Free x0 x1) := .run _ _
/-! redress/redressref11.Free -/
noncomputable def ref11_Free [Dfr] (x0 : List Nd) (x1 : Int) : Option (Bool) := lim fun k => run E k 17 (x0, x1)
theorem ref11_Free_lim [Dfr] (x0 : List Nd) (x1 : Int) : IsLim (fun k => run E k 17 (x0, x1)) (ref11_Free x0 x1) := .run _ _
noncomputable def ref11_Free_l0 [Dfr] (y5 : List (List Nd)) (y7 : Bool) (y8 : Int) : Option (Nat × Bool) := lim fun k => lp E 17 0 k k (y5, y7, y8)
theorem ref11_Free_l0_lim [Dfr] (y5 : List (List Nd)) (y7 : Bool) (y8 : Int) : IsLim (fun k => lp E 17 0 k k (y5, y7, y8)) (ref11_Free_l0 y5 y7 y8) := .lp _ _ _
/-! redress/mean.Small -/
noncomputable def mean_Small [Dfr] (x0 : List Nd) : Option (Bool) := lim fun k => run E k 18 x0
theorem mean_Small_lim [Dfr] (x0 : List Nd) : IsLim (fun k => run E k 18 x0) (mean_Small x0) := .run _ _
/-! redress/sort.On -/
noncomputable def sort_On [Dfr] (x0 : List Nd) (x1 : Bool) : Option (Bool) := lim fun k => run E k 19 (x0, x1)
theorem sort_On_lim [Dfr] (x0 : List Nd) (x1 : Bool) : IsLim (fun k => run E k 19 (x0, x1)) (sort_On x0 x1) := .run _ _
/-! redress/mean.Paired -/
noncomputable def mean_Paired [Dfr] (x0 : List Nd) : Option ((List (Tc × Tc)) × Int) := lim fun k => run E k 20 x0
theorem mean_Paired_lim [Dfr] (x0 : List Nd) : IsLim (fun k => run E k 20 x0) (mean_Paired x0) := .run _ _
/-! redress/mean.Plain -/
noncomputable def mean_Plain [Dfr] (x0 : List Nd) : Option (List Tc × Int) := lim fun k => run E k 21 x0
theorem mean_Plain_lim [Dfr] (x0 : List Nd) : IsLim (fun k => run E k 21 x0) (mean_Plain x0) := .run _ _
/-! redress/redressref03.Depth -/
noncomputable def ref03_Depth [Dfr] (x0 : List Nd) : Option (Int) := lim fun k => run E k 22 x0
theorem ref03_Depth_lim [Dfr] (x0 : List Nd) : IsLim (fun k => run E k 22 x0) (ref03_Depth x0) := .run _ _
/-! redress/settle.Settled -/
noncomputable def settle_Settled [Dfr] (x0 : List Nd) : Option (Bool) := lim fun k => run E k 23 x0
theorem settle_Settled_lim [Dfr] (x0 : List Nd) : IsLim (fun k => run E k 23 x0) (settle_Settled x0) := .run _ _
/-! redress/doom.Active$1 -/
noncomputable def doom_Active_1 [Dfr] (x0 : Int) (x1 : List Nd) : Option (Bool) := lim fun k => run E k 24 (x0, x1)
/-! slices.ContainsFunc[[]int,int] -/
noncomputable def slices_ContainsFunc__int [Dfr] (x0 : List Int) (x1 : FnV) : Option (Bool) := lim fun k => run E k 25 (x0, x1)
theorem slices_ContainsFunc__int_lim [Dfr] (x0 : List Int) (x1 : FnV) : IsLim (fun k => run E k 25 (x0, x1)) (slices_ContainsFunc__int x0 x1) := .run _ _
/-! redress/plot.Over -/
noncomputable def plot_Over [Dfr] (x0 : List Nd) (x1 : Int) : Option (List Int) := lim fun k => run E k 26 (x0, x1)
theorem plot_Over_lim [Dfr] (x0 : List Nd) (x1 : Int) : IsLim (fun k => run E k 26 (x0, x1)) (plot_Over x0 x1) := .run _ _
/-! redress/doom.Active$1$1 -/
noncomputable def doom_Active_1_1 [Dfr] (x0 : Int) (x1 : List Nd) (x2 : Int) : Option (Bool) := lim fun k => run E k 27 (x0, x1, x2)
/-! redress/doom.kid -/
noncomputable def doom_kid [Dfr] (x0 : List Nd) (x1 : Int) (x2 : Int) : Option (Int) := lim fun k => run E k 28 (x0, x1, x2)
theorem doom_kid_lim [Dfr] (x0 : List Nd) (x1 : Int) (x2 : Int) : IsLim (fun k => run E k 28 (x0, x1, x2)) (doom_kid x0 x1 x2) := .run _ _
noncomputable def doom_kid_l0 [Dfr] (y2 : Int) (y6 : Int) (y16 : List (List Nd)) (y17 : Int) (y18 : Int) : Option (Nat × Int) := lim fun k => lp E 28 0 k k (y2, y6, y16, y17, y18)
theorem doom_kid_l0_lim [Dfr] (y2 : Int) (y6 : Int) (y16 : List (List Nd)) (y17 : Int) (y18 : Int) : IsLim (fun k => lp E 28 0 k k (y2, y6, y16, y17, y18)) (doom_kid_l0 y2 y6 y16 y17 y18) := .lp _ _ _
/-! redress/doom.goes -/
noncomputable def doom_goes [Dfr] (x0 : Nd) : Option (Int) := lim fun k => run E k 29 x0
theorem doom_goes_lim [Dfr] (x0 : Nd) : IsLim (fun k => run E k 29 x0) (doom_goes x0) := .run _ _
/-! redress/row.Count -/
noncomputable def row_Count [Dfr] (x0 : List Nd) (x1 : List Int) : Option (Int) := lim fun k => run E k 30 (x0, x1)
theorem row_Count_lim [Dfr] (x0 : List Nd) (x1 : List Int) : IsLim (fun k => run E k 30 (x0, x1)) (row_Count x0 x1) := .run _ _
noncomputable def row_Count_l0 [Dfr] (y1 : List Int) (y5 : Int) (y8 : List Nd) (y9 : Int) (y10 : Int) : Option (Nat × Int) := lim fun k => lp E 30 0 k k (y1, y5, y8, y9, y10)
theorem row_Count_l0_lim [Dfr] (y1 : List Int) (y5 : Int) (y8 : List Nd) (y9 : Int) (y10 : Int) : IsLim (fun k => lp E 30 0 k k (y1, y5, y8, y9, y10)) (row_Count_l0 y1 y5 y8 y9 y10) := .lp _ _ _
/-! redress/redressref11.Settled -/
noncomputable def ref11_Settled [Dfr] (x0 : List Nd) : Option (Bool) := lim fun k => run E k 31 x0
theorem ref11_Settled_lim [Dfr] (x0 : List Nd) : IsLim (fun k => run E k 31 x0) (ref11_Settled x0) := .run _ _
/-! redress/redressref11.waits -/
noncomputable def ref11_waits [Dfr] (x0 : List Nd) (x1 : Int) : Option (List Int) := lim fun k => run E k 32 (x0, x1)
theorem ref11_waits_lim [Dfr] (x0 : List Nd) (x1 : Int) : IsLim (fun k => run E k 32 (x0, x1)) (ref11_waits x0 x1) := .run _ _
noncomputable def ref11_waits_l0 [Dfr] (y5 : List Int) (y6 : Int) (y7 : List (List Nd)) (y8 : Int) (y9 : Int) : Option (Nat × List Int) := lim fun k => lp E 32 0 k k (y5, y6, y7, y8, y9)
theorem ref11_waits_l0_lim [Dfr] (y5 : List Int) (y6 : Int) (y7 : List (List Nd)) (y8 : Int) (y9 : Int) : IsLim (fun k => lp E 32 0 k k (y5, y6, y7, y8, y9)) (ref11_waits_l0 y5 y6 y7 y8 y9) := .lp _ _ _
/-! redress/doom.doomed -/
noncomputable def doom_doomed [Dfr] (x0 : List Nd) : Option (Bool) := lim fun k => run E k 33 x0
theorem doom_doomed_lim [Dfr] (x0 : List Nd) : IsLim (fun k => run E k 33 x0) (doom_doomed x0) := .run _ _
/-! redress/redressref11.bang -/
noncomputable def ref11_bang [Dfr] (x0 : List Nd) : Option (Bool) := lim fun k => run E k 34 x0
theorem ref11_bang_lim [Dfr] (x0 : List Nd) : IsLim (fun k => run E k 34 x0) (ref11_bang x0) := .run _ _
/-! redress/doom.beside -/
noncomputable def doom_beside [Dfr] (x0 : List Nd) (x1 : Int) : Option (List (List Nd) × Bool) := lim fun k => run E k 35 (x0, x1)
theorem doom_beside_lim [Dfr] (x0 : List Nd) (x1 : Int) : IsLim (fun k => run E k 35 (x0, x1)) (doom_beside x0 x1) := .run _ _
noncomputable def doom_beside_l0 [Dfr] (y0 : List Nd) (y1 : Int) (y4 : List (List Nd)) (y5 : Bool) (y19 : List Int) (y20 : Int) (y21 : Int) : Option (Nat × (List (List Nd) × Bool)) := lim fun k => lp E 35 0 k k (y0, y1, y4, y5, y19, y20, y21)
theorem doom_beside_l0_lim [Dfr] (y0 : List Nd) (y1 : Int) (y4 : List (List Nd)) (y5 : Bool) (y19 : List Int) (y20 : Int) (y21 : Int) : IsLim (fun k => lp E 35 0 k k (y0, y1, y4, y5, y19, y20, y21)) (doom_beside_l0 y0 y1 y4 y5 y19 y20 y21) := .lp _ _ _
/-! redress/redressref11.in -/
noncomputable def ref11_in [Dfr] (x0 : List Int) (x1 : Int) : Option (Bool) := lim fun k => run E k 36 (x0, x1)
theorem ref11_in_lim [Dfr] (x0 : List Int) (x1 : Int) : IsLim (fun k => run E k 36 (x0, x1)) (ref11_in x0 x1) := .run _ _
noncomputable def ref11_in_l0 [Dfr] (y0 : List Int) (y1 : Int) (y4 : Bool) (y5 : Int) : Option (Nat × Bool) := lim fun k => lp E 36 0 k k (y0, y1, y4, y5)
theorem ref11_in_l0_lim [Dfr] (y0 : List Int) (y1 : Int) (y4 : Bool) (y5 : Int) : IsLim (fun k => lp E 36 0 k k (y0, y1, y4, y5)) (ref11_in_l0 y0 y1 y4 y5) := .lp _ _ _
/-! redress/redressref11.Path -/
noncomputable def ref11_Path [Dfr] (x0 : List Nd) (x1 : Int) (x2 : Int) : Option (List (List Nd) × Bool) := lim fun k => run E k 37 (x0, x1, x2)
theorem ref11_Path_lim [Dfr] (x0 : List Nd) (x1 : Int) (x2 : Int) : IsLim (fun k => run E k 37 (x0, x1, x2)) (ref11_Path x0 x1 x2) := .run _ _
noncomputable def ref11_Path_l0 [Dfr] (y0 : List Nd) (y2 : Int) (y8 : List (List Nd)) (y9 : Int) (y10 : Int) : Option (Nat × (List Nd × Int × List (List Nd) × Int × Int)) := lim fun k => lp E 37 0 k k (y0, y2, y8, y9, y10)
theorem ref11_Path_l0_lim [Dfr] (y0 : List Nd) (y2 : Int) (y8 : List (List Nd)) (y9 : Int) (y10 : Int) : IsLim (fun k => lp E 37 0 k k (y0, y2, y8, y9, y10)) (ref11_Path_l0 y0 y2 y8 y9 y10) := .lp _ _ _
/-! slices.ContainsFunc[[][]redress/api.Node,[]redress/api.Node] -/
noncomputable def slices_ContainsFunc__Sapi_Node [Dfr] (x0 : List (List Nd)) (x1 : FnV) : Option (Bool) := lim fun k => run E k 38 (x0, x1)
theorem slices_ContainsFunc__Sapi_Node_lim [Dfr] (x0 : List (List Nd)) (x1 : FnV) : IsLim (fun k => run E k 38 (x0, x1)) (slices_ContainsFunc__Sapi_Node x0 x1) := .run _ _
/-! redress/sort.on -/
noncomputable def sort_on [Dfr] (x0 : Int) : Option (Int) := lim fun k => run E k 39 x0
theorem sort_on_lim [Dfr] (x0 : Int) : IsLim (fun k => run E k 39 x0) (sort_on x0) := .run _ _
/-! redress/sort.Of -/
noncomputable def sort_Of [Dfr] (x0 : List Nd) : Option (Int) := lim fun k => run E k 40 x0
theorem sort_Of_lim [Dfr] (x0 : List Nd) : IsLim (fun k => run E k 40 x0) (sort_Of x0) := .run _ _
/-! redress/mean.told[redress/mean.Pair] -/
noncomputable def mean_told__mean_Pair [Dfr] (x0 : List Nd) (x1 : Bool) (x2 : FnV) : Option ((List (Tc × Tc)) × Int) := lim fun k => run E k 41 (x0, x1, x2)
theorem mean_told__mean_Pair_lim [Dfr] (x0 : List Nd) (x1 : Bool) (x2 : FnV) : IsLim (fun k => run E k 41 (x0, x1, x2)) (mean_told__mean_Pair x0 x1 x2) := .run _ _
/-! redress/mean.paired -/
noncomputable def mean_paired [Dfr] (x0 : List Nd) : Option (List (Tc × Tc)) := lim fun k => run E k 42 x0
theorem mean_paired_lim [Dfr] (x0 : List Nd) : IsLim (fun k => run E k 42 x0) (mean_paired x0) := .run _ _
noncomputable def mean_paired_l1 [Dfr] (y0 : List Nd) (y4 : List (Tc × Tc)) (y90 : List Tc) (y91 : Int) (y92 : Int) : Option (Nat × (List (Tc × Tc))) := lim fun k => lp E 42 1 k k (y0, y4, y90, y91, y92)
theorem mean_paired_l1_lim [Dfr] (y0 : List Nd) (y4 : List (Tc × Tc)) (y90 : List Tc) (y91 : Int) (y92 : Int) : IsLim (fun k => lp E 42 1 k k (y0, y4, y90, y91, y92)) (mean_paired_l1 y0 y4 y90 y91 y92) := .lp _ _ _
/-! redress/mean.told[redress/trace.Trace] -/
noncomputable def mean_told__trace_Trace [Dfr] (x0 : List Nd) (x1 : Bool) (x2 : FnV) : Option (List Tc × Int) := lim fun k => run E k 43 (x0, x1, x2)
theorem mean_told__trace_Trace_lim [Dfr] (x0 : List Nd) (x1 : Bool) (x2 : FnV) : IsLim (fun k => run E k 43 (x0, x1, x2)) (mean_told__trace_Trace x0 x1 x2) := .run _ _
/-! redress/mean.plain -/
noncomputable def mean_plain [Dfr] (x0 : List Nd) : Option (List Tc) := lim fun k => run E k 44 x0
theorem mean_plain_lim [Dfr] (x0 : List Nd) : IsLim (fun k => run E k 44 x0) (mean_plain x0) := .run _ _
noncomputable def mean_plain_l1 [Dfr] (y4 : List Tc) (y93 : List (Tc × Tc)) (y94 : Int) (y95 : Int) : Option (Nat × List Tc) := lim fun k => lp E 44 1 k k (y4, y93, y94, y95)
theorem mean_plain_l1_lim [Dfr] (y4 : List Tc) (y93 : List (Tc × Tc)) (y94 : Int) (y95 : Int) : IsLim (fun k => lp E 44 1 k k (y4, y93, y94, y95)) (mean_plain_l1 y4 y93 y94 y95) := .lp _ _ _
/-! redress/redressref03.Walk -/
noncomputable def ref03_Walk [Dfr] (x0 : List Nd) (x1 : Int) : Option (Int × Int) := lim fun k => run E k 45 (x0, x1)
theorem ref03_Walk_lim [Dfr] (x0 : List Nd) (x1 : Int) : IsLim (fun k => run E k 45 (x0, x1)) (ref03_Walk x0 x1) := .run _ _
noncomputable def ref03_Walk_l0 [Dfr] (y0 : List Nd) (y1 : Int) (y4 : Int) (y5 : Int) (y6 : Int) (y7 : Int) (y8 : Int) : Option (Nat × (Int × Int × Int × Int)) := lim fun k => lp E 45 0 k k (y0, y1, y4, y5, y6, y7, y8)
theorem ref03_Walk_l0_lim [Dfr] (y0 : List Nd) (y1 : Int) (y4 : Int) (y5 : Int) (y6 : Int) (y7 : Int) (y8 : Int) : IsLim (fun k => lp E 45 0 k k (y0, y1, y4, y5, y6, y7, y8)) (ref03_Walk_l0 y0 y1 y4 y5 y6 y7 y8) := .lp _ _ _
/-! redress/row.Same -/
noncomputable def row_Same [Dfr] (x0 : List Nd) (x1 : List Nd) : Option (Bool) := lim fun k => run E k 46 (x0, x1)
theorem row_Same_lim [Dfr] (x0 : List Nd) (x1 : List Nd) : IsLim (fun k => run E k 46 (x0, x1)) (row_Same x0 x1) := .run _ _
/-! redress/settle.Settle -/
noncomputable def settle_Settle [Dfr] (x0 : List Nd) : Option (List Nd) := lim fun k => run E k 47 x0
theorem settle_Settle_lim [Dfr] (x0 : List Nd) : IsLim (fun k => run E k 47 x0) (settle_Settle x0) := .run _ _
/-! slices.IndexFunc[[]int,int] -/
noncomputable def slices_IndexFunc__int [Dfr] (x0 : List Int) (x1 : FnV) : Option (Int) := lim fun k => run E k 48 (x0, x1)
theorem slices_IndexFunc__int_lim [Dfr] (x0 : List Int) (x1 : FnV) : IsLim (fun k => run E k 48 (x0, x1)) (slices_IndexFunc__int x0 x1) := .run _ _
noncomputable def slices_IndexFunc__int_l0 [Dfr] (y0 : List Int) (y1 : FnV) (y4 : Int) (y7 : Int) (y8 : Int) : Option (Nat × Int) := lim fun k => lp E 48 0 k k (y0, y1, y4, y7, y8)
theorem slices_IndexFunc__int_l0_lim [Dfr] (y0 : List Int) (y1 : FnV) (y4 : Int) (y7 : Int) (y8 : Int) : IsLim (fun k => lp E 48 0 k k (y0, y1, y4, y7, y8)) (slices_IndexFunc__int_l0 y0 y1 y4 y7 y8) := .lp _ _ _
/-! redress/row.Kids -/
noncomputable def row_Kids [Dfr] (x0 : List Nd) : Option (List (List Nd)) := lim fun k => run E k 50 x0
theorem row_Kids_lim [Dfr] (x0 : List Nd) : IsLim (fun k => run E k 50 x0) (row_Kids x0) := .run _ _
noncomputable def row_Kids_l0 [Dfr] (y0 : List Nd) (y3 : List (List Nd)) (y4 : Int) (y13 : Int) (y14 : Int) : Option (Nat × List (List Nd)) := lim fun k => lp E 50 0 k k (y0, y3, y4, y13, y14)
theorem row_Kids_l0_lim [Dfr] (y0 : List Nd) (y3 : List (List Nd)) (y4 : Int) (y13 : Int) (y14 : Int) : IsLim (fun k => lp E 50 0 k k (y0, y3, y4, y13, y14)) (row_Kids_l0 y0 y3 y4 y13 y14) := .lp _ _ _
/-! slices.Contains[[]int,int] -/
noncomputable def slices_Contains__int [Dfr] (x0 : List Int) (x1 : Int) : Option (Bool) := lim fun k => run E k 51 (x0, x1)
theorem slices_Contains__int_lim [Dfr] (x0 : List Int) (x1 : Int) : IsLim (fun k => run E k 51 (x0, x1)) (slices_Contains__int x0 x1) := .run _ _
/-! redress/redressref10.Settle -/
noncomputable def ref10_Settle [Dfr] (x0 : List Nd) : Option (List Nd) := lim fun k => run E k 52 x0
theorem ref10_Settle_lim [Dfr] (x0 : List Nd) : IsLim (fun k => run E k 52 x0) (ref10_Settle x0) := .run _ _
/-! redress/redressref03.Kids -/
noncomputable def ref03_Kids [Dfr] (x0 : List Nd) : Option (List (List Nd)) := lim fun k => run E k 53 x0
theorem ref03_Kids_lim [Dfr] (x0 : List Nd) : IsLim (fun k => run E k 53 x0) (ref03_Kids x0) := .run _ _
noncomputable def ref03_Kids_l0 [Dfr] (y0 : List Nd) (y3 : List (List Nd)) (y4 : Int) (y5 : Int) : Option (Nat × List (List Nd)) := lim fun k => lp E 53 0 k k (y0, y3, y4, y5)
theorem ref03_Kids_l0_lim [Dfr] (y0 : List Nd) (y3 : List (List Nd)) (y4 : Int) (y5 : Int) : IsLim (fun k => lp E 53 0 k k (y0, y3, y4, y5)) (ref03_Kids_l0 y0 y3 y4 y5) := .lp _ _ _
/-! redress/redressref11.on -/
noncomputable def ref11_on [Dfr] (x0 : Int) (x1 : Int) : Option (Bool) := lim fun k => run E k 54 (x0, x1)
theorem ref11_on_lim [Dfr] (x0 : Int) (x1 : Int) : IsLim (fun k => run E k 54 (x0, x1)) (ref11_on x0 x1) := .run _ _
/-! slices.IndexFunc[[][]redress/api.Node,[]redress/api.Node] -/
noncomputable def slices_IndexFunc__Sapi_Node [Dfr] (x0 : List (List Nd)) (x1 : FnV) : Option (Int) := lim fun k => run E k 56 (x0, x1)
theorem slices_IndexFunc__Sapi_Node_lim [Dfr] (x0 : List (List Nd)) (x1 : FnV) : IsLim (fun k => run E k 56 (x0, x1)) (slices_IndexFunc__Sapi_Node x0 x1) := .run _ _
noncomputable def slices_IndexFunc__Sapi_Node_l0 [Dfr] (y0 : List (List Nd)) (y1 : FnV) (y4 : Int) (y7 : Int) (y8 : Int) : Option (Nat × Int) := lim fun k => lp E 56 0 k k (y0, y1, y4, y7, y8)
theorem slices_IndexFunc__Sapi_Node_l0_lim [Dfr] (y0 : List (List Nd)) (y1 : FnV) (y4 : Int) (y7 : Int) (y8 : Int) : IsLim (fun k => lp E 56 0 k k (y0, y1, y4, y7, y8)) (slices_IndexFunc__Sapi_Node_l0 y0 y1 y4 y7 y8) := .lp _ _ _
/-! redress/row.Whole -/
noncomputable def row_Whole [Dfr] (x0 : List Nd) : Option (Bool) := lim fun k => run E k 57 x0
theorem row_Whole_lim [Dfr] (x0 : List Nd) : IsLim (fun k => run E k 57 x0) (row_Whole x0) := .run _ _
/-! redress/sort.sort -/
noncomputable def sort_sort [Dfr] (x0 : List Nd) : Option (Int) := lim fun k => run E k 58 x0
theorem sort_sort_lim [Dfr] (x0 : List Nd) : IsLim (fun k => run E k 58 x0) (sort_sort x0) := .run _ _
noncomputable def sort_sort_l0 [Dfr] (y0 : List Nd) (y2 : Int) (y3 : List Int) (y8 : List (List Nd)) (y9 : Int) (y10 : Int) : Option (Nat × (List Nd × Int × List Int)) := lim fun k => lp E 58 0 k k (y0, y2, y3, y8, y9, y10)
theorem sort_sort_l0_lim [Dfr] (y0 : List Nd) (y2 : Int) (y3 : List Int) (y8 : List (List Nd)) (y9 : Int) (y10 : Int) : IsLim (fun k => lp E 58 0 k k (y0, y2, y3, y8, y9, y10)) (sort_sort_l0 y0 y2 y3 y8 y9 y10) := .lp _ _ _
/-! redress/mean.going -/
noncomputable def mean_going [Dfr] (x0 : List Tc) (x1 : List Tc) : Option (List (Tc × Tc)) := lim fun k => run E k 59 (x0, x1)
theorem mean_going_lim [Dfr] (x0 : List Tc) (x1 : List Tc) : IsLim (fun k => run E k 59 (x0, x1)) (mean_going x0 x1) := .run _ _
/-! redress/mean.ends -/
noncomputable def mean_ends [Dfr] (x0 : Int) : Option (Tc) := lim fun k => run E k 60 x0
theorem mean_ends_lim [Dfr] (x0 : Int) : IsLim (fun k => run E k 60 x0) (mean_ends x0) := .run _ _
/-! redress/mean.cross[redress/mean.Pair,redress/mean.Pair,redress/mean.Pair] -/
noncomputable def mean_cross__mean_Pair_mean_Pair_mean_Pair [Dfr] (x0 : List (Tc × Tc)) (x1 : List (Tc × Tc)) (x2 : FnV) : Option (List (Tc × Tc)) := lim fun k => run E k 61 (x0, x1, x2)
theorem mean_cross__mean_Pair_mean_Pair_mean_Pair_lim [Dfr] (x0 : List (Tc × Tc)) (x1 : List (Tc × Tc)) (x2 : FnV) : IsLim (fun k => run E k 61 (x0, x1, x2)) (mean_cross__mean_Pair_mean_Pair_mean_Pair x0 x1 x2) := .run _ _
noncomputable def mean_cross__mean_Pair_mean_Pair_mean_Pair_l2 [Dfr] (y1 : List (Tc × Tc)) (y2 : FnV) (y7 : List (Tc × Tc)) (y9 : Tc × Tc) (y12 : List (Tc × Tc)) (y13 : Int) (y14 : Int) (y18 : List (Tc × Tc)) (y19 : Int) (y20 : Int) : Option (Nat × ((List (Tc × Tc)) × FnV × (List (Tc × Tc)) × (List (Tc × Tc)) × Int × Int)) := lim fun k => lp E 61 2 k k (y1, y2, y7, y9, y12, y13, y14, y18, y19, y20)
theorem mean_cross__mean_Pair_mean_Pair_mean_Pair_l2_lim [Dfr] (y1 : List (Tc × Tc)) (y2 : FnV) (y7 : List (Tc × Tc)) (y9 : Tc × Tc) (y12 : List (Tc × Tc)) (y13 : Int) (y14 : Int) (y18 : List (Tc × Tc)) (y19 : Int) (y20 : Int) : IsLim (fun k => lp E 61 2 k k (y1, y2, y7, y9, y12, y13, y14, y18, y19, y20)) (mean_cross__mean_Pair_mean_Pair_mean_Pair_l2 y1 y2 y7 y9 y12 y13 y14 y18 y19 y20) := .lp _ _ _
noncomputable def mean_cross__mean_Pair_mean_Pair_mean_Pair_l0 [Dfr] (y1 : List (Tc × Tc)) (y2 : FnV) (y7 : List (Tc × Tc)) (y12 : List (Tc × Tc)) (y13 : Int) (y14 : Int) : Option (Nat × (List (Tc × Tc))) := lim fun k => lp E 61 0 k k (y1, y2, y7, y12, y13, y14)
theorem mean_cross__mean_Pair_mean_Pair_mean_Pair_l0_lim [Dfr] (y1 : List (Tc × Tc)) (y2 : FnV) (y7 : List (Tc × Tc)) (y12 : List (Tc × Tc)) (y13 : Int) (y14 : Int) : IsLim (fun k => lp E 61 0 k k (y1, y2, y7, y12, y13, y14)) (mean_cross__mean_Pair_mean_Pair_mean_Pair_l0 y1 y2 y7 y12 y13 y14) := .lp _ _ _
/-! redress/mean.paired$1 -/
noncomputable def mean_paired_1 [Dfr] (x0 : Tc × Tc) (x1 : Tc × Tc) : Option (List (Tc × Tc)) := lim fun k => run E k 62 (x0, x1)
/-! redress/trace.Then -/
noncomputable def trace_Then [Dfr] (x0 : Tc) (x1 : Tc) : Option (Tc) := lim fun k => run E k 63 (x0, x1)
theorem trace_Then_lim [Dfr] (x0 : Tc) (x1 : Tc) : IsLim (fun k => run E k 63 (x0, x1)) (trace_Then x0 x1) := .run _ _
/-! slices.Concat[[]redress/mean.Pair,redress/mean.Pair] -/
noncomputable def slices_Concat__mean_Pair [Dfr] (x0 : List (List (Tc × Tc))) : Option (List (Tc × Tc)) := lim fun k => run E k 64 x0
theorem slices_Concat__mean_Pair_lim [Dfr] (x0 : List (List (Tc × Tc))) : IsLim (fun k => run E k 64 x0) (slices_Concat__mean_Pair x0) := .run _ _
noncomputable def slices_Concat__mean_Pair_l0 [Dfr] (y0 : List (List (Tc × Tc))) (y3 : Int) (y9 : List (List (Tc × Tc))) (y10 : Int) (y11 : Int) : Option (Nat × ((List (List (Tc × Tc))) × Int)) := lim fun k => lp E 64 0 k k (y0, y3, y9, y10, y11)
theorem slices_Concat__mean_Pair_l0_lim [Dfr] (y0 : List (List (Tc × Tc))) (y3 : Int) (y9 : List (List (Tc × Tc))) (y10 : Int) (y11 : Int) : IsLim (fun k => lp E 64 0 k k (y0, y3, y9, y10, y11)) (slices_Concat__mean_Pair_l0 y0 y3 y9 y10 y11) := .lp _ _ _
noncomputable def slices_Concat__mean_Pair_l2 [Dfr] (y6 : List (Tc × Tc)) (y25 : List (List (Tc × Tc))) (y26 : Int) (y27 : Int) : Option (Nat × (List (Tc × Tc))) := lim fun k => lp E 64 2 k k (y6, y25, y26, y27)
theorem slices_Concat__mean_Pair_l2_lim [Dfr] (y6 : List (Tc × Tc)) (y25 : List (List (Tc × Tc))) (y26 : Int) (y27 : Int) : IsLim (fun k => lp E 64 2 k k (y6, y25, y26, y27)) (slices_Concat__mean_Pair_l2 y6 y25 y26 y27) := .lp _ _ _
/-! redress/mean.paired$2 -/
noncomputable def mean_paired_2 [Dfr] (x0 : Tc × Tc) (x1 : Tc × Tc) : Option (List (Tc × Tc)) := lim fun k => run E k 65 (x0, x1)
/-! redress/mean.cross[redress/trace.Trace,redress/trace.Trace,redress/mean.Pair] -/
noncomputable def mean_cross__trace_Trace_trace_Trace_mean_Pair [Dfr] (x0 : List Tc) (x1 : List Tc) (x2 : FnV) : Option (List (Tc × Tc)) := lim fun k => run E k 66 (x0, x1, x2)
theorem mean_cross__trace_Trace_trace_Trace_mean_Pair_lim [Dfr] (x0 : List Tc) (x1 : List Tc) (x2 : FnV) : IsLim (fun k => run E k 66 (x0, x1, x2)) (mean_cross__trace_Trace_trace_Trace_mean_Pair x0 x1 x2) := .run _ _
noncomputable def mean_cross__trace_Trace_trace_Trace_mean_Pair_l2 [Dfr] (y1 : List Tc) (y2 : FnV) (y7 : List (Tc × Tc)) (y9 : Tc) (y12 : List Tc) (y13 : Int) (y14 : Int) (y18 : List Tc) (y19 : Int) (y20 : Int) : Option (Nat × (List Tc × FnV × (List (Tc × Tc)) × List Tc × Int × Int)) := lim fun k => lp E 66 2 k k (y1, y2, y7, y9, y12, y13, y14, y18, y19, y20)
theorem mean_cross__trace_Trace_trace_Trace_mean_Pair_l2_lim [Dfr] (y1 : List Tc) (y2 : FnV) (y7 : List (Tc × Tc)) (y9 : Tc) (y12 : List Tc) (y13 : Int) (y14 : Int) (y18 : List Tc) (y19 : Int) (y20 : Int) : IsLim (fun k => lp E 66 2 k k (y1, y2, y7, y9, y12, y13, y14, y18, y19, y20)) (mean_cross__trace_Trace_trace_Trace_mean_Pair_l2 y1 y2 y7 y9 y12 y13 y14 y18 y19 y20) := .lp _ _ _
noncomputable def mean_cross__trace_Trace_trace_Trace_mean_Pair_l0 [Dfr] (y1 : List Tc) (y2 : FnV) (y7 : List (Tc × Tc)) (y12 : List Tc) (y13 : Int) (y14 : Int) : Option (Nat × (List (Tc × Tc))) := lim fun k => lp E 66 0 k k (y1, y2, y7, y12, y13, y14)
theorem mean_cross__trace_Trace_trace_Trace_mean_Pair_l0_lim [Dfr] (y1 : List Tc) (y2 : FnV) (y7 : List (Tc × Tc)) (y12 : List Tc) (y13 : Int) (y14 : Int) : IsLim (fun k => lp E 66 0 k k (y1, y2, y7, y12, y13, y14)) (mean_cross__trace_Trace_trace_Trace_mean_Pair_l0 y1 y2 y7 y12 y13 y14) := .lp _ _ _
/-! redress/trace.Par -/
noncomputable def trace_Par [Dfr] (x0 : Tc) (x1 : Tc) : Option (List Tc) := lim fun k => run E k 67 (x0, x1)
theorem trace_Par_lim [Dfr] (x0 : Tc) (x1 : Tc) : IsLim (fun k => run E k 67 (x0, x1)) (trace_Par x0 x1) := .run _ _
noncomputable def trace_Par_l0 [Dfr] (y5 : Int) (y6 : List Tc) (y18 : List (List ByteArray)) (y19 : Int) (y20 : Int) : Option (Nat × List Tc) := lim fun k => lp E 67 0 k k (y5, y6, y18, y19, y20)
theorem trace_Par_l0_lim [Dfr] (y5 : Int) (y6 : List Tc) (y18 : List (List ByteArray)) (y19 : Int) (y20 : Int) : IsLim (fun k => lp E 67 0 k k (y5, y6, y18, y19, y20)) (trace_Par_l0 y5 y6 y18 y19 y20) := .lp _ _ _
/-! redress/mean.paired$2$1 -/
noncomputable def mean_paired_2_1 [Dfr] (x0 : Tc) (x1 : Tc) : Option (List (Tc × Tc)) := lim fun k => run E k 68 (x0, x1)
/-! redress/mean.cross[redress/mean.Pair,redress/trace.Trace,redress/mean.Pair] -/
noncomputable def mean_cross__mean_Pair_trace_Trace_mean_Pair [Dfr] (x0 : List (Tc × Tc)) (x1 : List Tc) (x2 : FnV) : Option (List (Tc × Tc)) := lim fun k => run E k 69 (x0, x1, x2)
theorem mean_cross__mean_Pair_trace_Trace_mean_Pair_lim [Dfr] (x0 : List (Tc × Tc)) (x1 : List Tc) (x2 : FnV) : IsLim (fun k => run E k 69 (x0, x1, x2)) (mean_cross__mean_Pair_trace_Trace_mean_Pair x0 x1 x2) := .run _ _
noncomputable def mean_cross__mean_Pair_trace_Trace_mean_Pair_l2 [Dfr] (y1 : List Tc) (y2 : FnV) (y7 : List (Tc × Tc)) (y9 : Tc × Tc) (y12 : List (Tc × Tc)) (y13 : Int) (y14 : Int) (y18 : List Tc) (y19 : Int) (y20 : Int) : Option (Nat × (List Tc × FnV × (List (Tc × Tc)) × (List (Tc × Tc)) × Int × Int)) := lim fun k => lp E 69 2 k k (y1, y2, y7, y9, y12, y13, y14, y18, y19, y20)
theorem mean_cross__mean_Pair_trace_Trace_mean_Pair_l2_lim [Dfr] (y1 : List Tc) (y2 : FnV) (y7 : List (Tc × Tc)) (y9 : Tc × Tc) (y12 : List (Tc × Tc)) (y13 : Int) (y14 : Int) (y18 : List Tc) (y19 : Int) (y20 : Int) : IsLim (fun k => lp E 69 2 k k (y1, y2, y7, y9, y12, y13, y14, y18, y19, y20)) (mean_cross__mean_Pair_trace_Trace_mean_Pair_l2 y1 y2 y7 y9 y12 y13 y14 y18 y19 y20) := .lp _ _ _
noncomputable def mean_cross__mean_Pair_trace_Trace_mean_Pair_l0 [Dfr] (y1 : List Tc) (y2 : FnV) (y7 : List (Tc × Tc)) (y12 : List (Tc × Tc)) (y13 : Int) (y14 : Int) : Option (Nat × (List (Tc × Tc))) := lim fun k => lp E 69 0 k k (y1, y2, y7, y12, y13, y14)
theorem mean_cross__mean_Pair_trace_Trace_mean_Pair_l0_lim [Dfr] (y1 : List Tc) (y2 : FnV) (y7 : List (Tc × Tc)) (y12 : List (Tc × Tc)) (y13 : Int) (y14 : Int) : IsLim (fun k => lp E 69 0 k k (y1, y2, y7, y12, y13, y14)) (mean_cross__mean_Pair_trace_Trace_mean_Pair_l0 y1 y2 y7 y12 y13 y14) := .lp _ _ _
/-! redress/mean.paired$3 -/
noncomputable def mean_paired_3 [Dfr] (x0 : Tc × Tc) (x1 : Tc) : Option (List (Tc × Tc)) := lim fun k => run E k 70 (x0, x1)
/-! redress/mean.set -/
noncomputable def mean_set [Dfr] (x0 : List (Tc × Tc)) : Option (List (Tc × Tc)) := lim fun k => run E k 71 x0
theorem mean_set_lim [Dfr] (x0 : List (Tc × Tc)) : IsLim (fun k => run E k 71 x0) (mean_set x0) := .run _ _
/-! redress/mean.cross[redress/trace.Trace,redress/trace.Trace,redress/trace.Trace] -/
noncomputable def mean_cross__trace_Trace_trace_Trace_trace_Trace [Dfr] (x0 : List Tc) (x1 : List Tc) (x2 : FnV) : Option (List Tc) := lim fun k => run E k 72 (x0, x1, x2)
theorem mean_cross__trace_Trace_trace_Trace_trace_Trace_lim [Dfr] (x0 : List Tc) (x1 : List Tc) (x2 : FnV) : IsLim (fun k => run E k 72 (x0, x1, x2)) (mean_cross__trace_Trace_trace_Trace_trace_Trace x0 x1 x2) := .run _ _
noncomputable def mean_cross__trace_Trace_trace_Trace_trace_Trace_l2 [Dfr] (y1 : List Tc) (y2 : FnV) (y7 : List Tc) (y9 : Tc) (y12 : List Tc) (y13 : Int) (y14 : Int) (y18 : List Tc) (y19 : Int) (y20 : Int) : Option (Nat × (List Tc × FnV × List Tc × List Tc × Int × Int)) := lim fun k => lp E 72 2 k k (y1, y2, y7, y9, y12, y13, y14, y18, y19, y20)
theorem mean_cross__trace_Trace_trace_Trace_trace_Trace_l2_lim [Dfr] (y1 : List Tc) (y2 : FnV) (y7 : List Tc) (y9 : Tc) (y12 : List Tc) (y13 : Int) (y14 : Int) (y18 : List Tc) (y19 : Int) (y20 : Int) : IsLim (fun k => lp E 72 2 k k (y1, y2, y7, y9, y12, y13, y14, y18, y19, y20)) (mean_cross__trace_Trace_trace_Trace_trace_Trace_l2 y1 y2 y7 y9 y12 y13 y14 y18 y19 y20) := .lp _ _ _
noncomputable def mean_cross__trace_Trace_trace_Trace_trace_Trace_l0 [Dfr] (y1 : List Tc) (y2 : FnV) (y7 : List Tc) (y12 : List Tc) (y13 : Int) (y14 : Int) : Option (Nat × List Tc) := lim fun k => lp E 72 0 k k (y1, y2, y7, y12, y13, y14)
theorem mean_cross__trace_Trace_trace_Trace_trace_Trace_l0_lim [Dfr] (y1 : List Tc) (y2 : FnV) (y7 : List Tc) (y12 : List Tc) (y13 : Int) (y14 : Int) : IsLim (fun k => lp E 72 0 k k (y1, y2, y7, y12, y13, y14)) (mean_cross__trace_Trace_trace_Trace_trace_Trace_l0 y1 y2 y7 y12 y13 y14) := .lp _ _ _
/-! redress/mean.plain$1 -/
noncomputable def mean_plain_1 [Dfr] (x0 : Tc) (x1 : Tc) : Option (List Tc) := lim fun k => run E k 73 (x0, x1)
/-! slices.Concat[[]redress/trace.Trace,redress/trace.Trace] -/
noncomputable def slices_Concat__trace_Trace [Dfr] (x0 : List (List Tc)) : Option (List Tc) := lim fun k => run E k 74 x0
theorem slices_Concat__trace_Trace_lim [Dfr] (x0 : List (List Tc)) : IsLim (fun k => run E k 74 x0) (slices_Concat__trace_Trace x0) := .run _ _
noncomputable def slices_Concat__trace_Trace_l0 [Dfr] (y0 : List (List Tc)) (y3 : Int) (y9 : List (List Tc)) (y10 : Int) (y11 : Int) : Option (Nat × (List (List Tc) × Int)) := lim fun k => lp E 74 0 k k (y0, y3, y9, y10, y11)
theorem slices_Concat__trace_Trace_l0_lim [Dfr] (y0 : List (List Tc)) (y3 : Int) (y9 : List (List Tc)) (y10 : Int) (y11 : Int) : IsLim (fun k => lp E 74 0 k k (y0, y3, y9, y10, y11)) (slices_Concat__trace_Trace_l0 y0 y3 y9 y10 y11) := .lp _ _ _
noncomputable def slices_Concat__trace_Trace_l2 [Dfr] (y6 : List Tc) (y25 : List (List Tc)) (y26 : Int) (y27 : Int) : Option (Nat × List Tc) := lim fun k => lp E 74 2 k k (y6, y25, y26, y27)
theorem slices_Concat__trace_Trace_l2_lim [Dfr] (y6 : List Tc) (y25 : List (List Tc)) (y26 : Int) (y27 : Int) : IsLim (fun k => lp E 74 2 k k (y6, y25, y26, y27)) (slices_Concat__trace_Trace_l2 y6 y25 y26 y27) := .lp _ _ _
/-! redress/mean.plain$2 -/
noncomputable def mean_plain_2 [Dfr] (x0 : Tc) (x1 : Tc) : Option (List Tc) := lim fun k => run E k 75 (x0, x1)
/-! redress/mean.behind -/
noncomputable def mean_behind [Dfr] (x0 : Tc) (x1 : Tc) : Option (Tc) := lim fun k => run E k 76 (x0, x1)
theorem mean_behind_lim [Dfr] (x0 : Tc) (x1 : Tc) : IsLim (fun k => run E k 76 (x0, x1)) (mean_behind x0 x1) := .run _ _
/-! redress/trace.Set -/
noncomputable def trace_Set [Dfr] (x0 : List Tc) : Option (List Tc) := lim fun k => run E k 77 x0
theorem trace_Set_lim [Dfr] (x0 : List Tc) : IsLim (fun k => run E k 77 x0) (trace_Set x0) := .run _ _
/-! redress/redressref03.Arity -/
noncomputable def ref03_Arity [Dfr] (x0 : Int) : Option (Int) := lim fun k => run E k 78 x0
theorem ref03_Arity_lim [Dfr] (x0 : Int) : IsLim (fun k => run E k 78 x0) (ref03_Arity x0) := .run _ _
/-! slices.Equal[[]redress/api.Node,redress/api.Node] -/
noncomputable def slices_Equal__api_Node [Dfr] (x0 : List Nd) (x1 : List Nd) : Option (Bool) := lim fun k => run E k 79 (x0, x1)
theorem slices_Equal__api_Node_lim [Dfr] (x0 : List Nd) (x1 : List Nd) : IsLim (fun k => run E k 79 (x0, x1)) (slices_Equal__api_Node x0 x1) := .run _ _
noncomputable def slices_Equal__api_Node_l0 [Dfr] (y0 : List Nd) (y1 : List Nd) (y4 : Bool) (y12 : Int) (y13 : Int) : Option (Nat × Bool) := lim fun k => lp E 79 0 k k (y0, y1, y4, y12, y13)
theorem slices_Equal__api_Node_l0_lim [Dfr] (y0 : List Nd) (y1 : List Nd) (y4 : Bool) (y12 : Int) (y13 : Int) : IsLim (fun k => lp E 79 0 k k (y0, y1, y4, y12, y13)) (slices_Equal__api_Node_l0 y0 y1 y4 y12 y13) := .lp _ _ _
/-! redress/settle.settle -/
noncomputable def settle_settle [Dfr] (x0 : List Nd) : Option (List Nd) := lim fun k => run E k 80 x0
theorem settle_settle_lim [Dfr] (x0 : List Nd) : IsLim (fun k => run E k 80 x0) (settle_settle x0) := .run _ _
/-! redress/plot.one -/
noncomputable def plot_one [Dfr] (x0 : List Nd) : Option (Bool) := lim fun k => run E k 82 x0
theorem plot_one_lim [Dfr] (x0 : List Nd) : IsLim (fun k => run E k 82 x0) (plot_one x0) := .run _ _
/-! redress/row.Arity -/
noncomputable def row_Arity [Dfr] (x0 : Int) : Option (Int) := lim fun k => run E k 83 x0
theorem row_Arity_lim [Dfr] (x0 : Int) : IsLim (fun k => run E k 83 x0) (row_Arity x0) := .run _ _
/-! redress/row.Size -/
noncomputable def row_Size [Dfr] (x0 : List Nd) : Option (Int) := lim fun k => run E k 84 x0
theorem row_Size_lim [Dfr] (x0 : List Nd) : IsLim (fun k => run E k 84 x0) (row_Size x0) := .run _ _
noncomputable def row_Size_l0 [Dfr] (y2 : Int) (y3 : Int) (y7 : List Nd) (y8 : Int) (y9 : Int) : Option (Nat × Int) := lim fun k => lp E 84 0 k k (y2, y3, y7, y8, y9)
theorem row_Size_l0_lim [Dfr] (y2 : Int) (y3 : Int) (y7 : List Nd) (y8 : Int) (y9 : Int) : IsLim (fun k => lp E 84 0 k k (y2, y3, y7, y8, y9)) (row_Size_l0 y2 y3 y7 y8 y9) := .lp _ _ _
/-! slices.Clone[[]redress/api.Node,redress/api.Node] -/
noncomputable def slices_Clone__api_Node [Dfr] (x0 : List Nd) : Option (List Nd) := lim fun k => run E k 85 x0
theorem slices_Clone__api_Node_lim [Dfr] (x0 : List Nd) : IsLim (fun k => run E k 85 x0) (slices_Clone__api_Node x0) := .run _ _
/-! slices.Index[[]int,int] -/
noncomputable def slices_Index__int [Dfr] (x0 : List Int) (x1 : Int) : Option (Int) := lim fun k => run E k 86 (x0, x1)
theorem slices_Index__int_lim [Dfr] (x0 : List Int) (x1 : Int) : IsLim (fun k => run E k 86 (x0, x1)) (slices_Index__int x0 x1) := .run _ _
noncomputable def slices_Index__int_l0 [Dfr] (y0 : List Int) (y1 : Int) (y4 : Int) (y7 : Int) (y8 : Int) : Option (Nat × Int) := lim fun k => lp E 86 0 k k (y0, y1, y4, y7, y8)
theorem slices_Index__int_l0_lim [Dfr] (y0 : List Int) (y1 : Int) (y4 : Int) (y7 : Int) (y8 : Int) : IsLim (fun k => lp E 86 0 k k (y0, y1, y4, y7, y8)) (slices_Index__int_l0 y0 y1 y4 y7 y8) := .lp _ _ _
/-! redress/redressref04.Of -/
noncomputable def ref04_Of [Dfr] (x0 : List Nd) : Option (Int) := lim fun k => run E k 87 x0
theorem ref04_Of_lim [Dfr] (x0 : List Nd) : IsLim (fun k => run E k 87 x0) (ref04_Of x0) := .run _ _
noncomputable def ref04_Of_l0 [Dfr] (y0 : List Nd) (y2 : Int) (y3 : Int) : Option (Nat × Int) := lim fun k => lp E 87 0 k k (y0, y2, y3)
theorem ref04_Of_l0_lim [Dfr] (y0 : List Nd) (y2 : Int) (y3 : Int) : IsLim (fun k => lp E 87 0 k k (y0, y2, y3)) (ref04_Of_l0 y0 y2 y3) := .lp _ _ _
/-! redress/redressref10.Tree -/
noncomputable def ref10_Tree [Dfr] (x0 : List Nd) : Option (List Nd) := lim fun k => run E k 88 x0
theorem ref10_Tree_lim [Dfr] (x0 : List Nd) : IsLim (fun k => run E k 88 x0) (ref10_Tree x0) := .run _ _
/-! redress/redressref03.Size -/
noncomputable def ref03_Size [Dfr] (x0 : List Nd) : Option (Int) := lim fun k => run E k 89 x0
theorem ref03_Size_lim [Dfr] (x0 : List Nd) : IsLim (fun k => run E k 89 x0) (ref03_Size x0) := .run _ _
/-! redress/row.Whole$1 -/
noncomputable def row_Whole_1 [Dfr] (x0 : Nd) : Option (Bool) := lim fun k => run E k 90 x0
/-! redress/row.Right -/
noncomputable def row_Right [Dfr] (x0 : Nd) : Option (Bool) := lim fun k => run E k 91 x0
theorem row_Right_lim [Dfr] (x0 : Nd) : IsLim (fun k => run E k 91 x0) (row_Right x0) := .run _ _
/-! slices.ContainsFunc[[]redress/api.Node,redress/api.Node] -/
noncomputable def slices_ContainsFunc__api_Node [Dfr] (x0 : List Nd) (x1 : FnV) : Option (Bool) := lim fun k => run E k 92 (x0, x1)
theorem slices_ContainsFunc__api_Node_lim [Dfr] (x0 : List Nd) (x1 : FnV) : IsLim (fun k => run E k 92 (x0, x1)) (slices_ContainsFunc__api_Node x0 x1) := .run _ _
/-! redress/sort.both -/
noncomputable def sort_both [Dfr] (x0 : Int) (x1 : Int) : Option (Int) := lim fun k => run E k 93 (x0, x1)
theorem sort_both_lim [Dfr] (x0 : Int) (x1 : Int) : IsLim (fun k => run E k 93 (x0, x1)) (sort_both x0 x1) := .run _ _
/-! redress/sort.behind -/
noncomputable def sort_behind [Dfr] (x0 : Int) (x1 : Int) (x2 : Int) : Option (Int) := lim fun k => run E k 94 (x0, x1, x2)
theorem sort_behind_lim [Dfr] (x0 : Int) (x1 : Int) (x2 : Int) : IsLim (fun k => run E k 94 (x0, x1, x2)) (sort_behind x0 x1 x2) := .run _ _
/-! redress/mean.going$1 -/
noncomputable def mean_going_1 [Dfr] (x0 : Tc) (x1 : Tc) : Option (List (Tc × Tc)) := lim fun k => run E k 95 (x0, x1)
/-! slices.Clone[[]string,string] -/
noncomputable def slices_Clone__string [Dfr] (x0 : List ByteArray) : Option (List ByteArray) := lim fun k => run E k 96 x0
theorem slices_Clone__string_lim [Dfr] (x0 : List ByteArray) : IsLim (fun k => run E k 96 x0) (slices_Clone__string x0) := .run _ _
/-! slices.Concat[[]string,string] -/
noncomputable def slices_Concat__string [Dfr] (x0 : List (List ByteArray)) : Option (List ByteArray) := lim fun k => run E k 97 x0
theorem slices_Concat__string_lim [Dfr] (x0 : List (List ByteArray)) : IsLim (fun k => run E k 97 x0) (slices_Concat__string x0) := .run _ _
noncomputable def slices_Concat__string_l0 [Dfr] (y0 : List (List ByteArray)) (y3 : Int) (y9 : List (List ByteArray)) (y10 : Int) (y11 : Int) : Option (Nat × (List (List ByteArray) × Int)) := lim fun k => lp E 97 0 k k (y0, y3, y9, y10, y11)
theorem slices_Concat__string_l0_lim [Dfr] (y0 : List (List ByteArray)) (y3 : Int) (y9 : List (List ByteArray)) (y10 : Int) (y11 : Int) : IsLim (fun k => lp E 97 0 k k (y0, y3, y9, y10, y11)) (slices_Concat__string_l0 y0 y3 y9 y10 y11) := .lp _ _ _
noncomputable def slices_Concat__string_l2 [Dfr] (y6 : List ByteArray) (y25 : List (List ByteArray)) (y26 : Int) (y27 : Int) : Option (Nat × List ByteArray) := lim fun k => lp E 97 2 k k (y6, y25, y26, y27)
theorem slices_Concat__string_l2_lim [Dfr] (y6 : List ByteArray) (y25 : List (List ByteArray)) (y26 : Int) (y27 : Int) : IsLim (fun k => lp E 97 2 k k (y6, y25, y26, y27)) (slices_Concat__string_l2 y6 y25 y26 y27) := .lp _ _ _
/-! slices.Grow[[]redress/mean.Pair,redress/mean.Pair] -/
noncomputable def slices_Grow__mean_Pair [Dfr] (x0 : Unit) (x1 : Int) : Option (List (Tc × Tc)) := lim fun k => run E k 98 (x0, x1)
theorem slices_Grow__mean_Pair_lim [Dfr] (x0 : Unit) (x1 : Int) : IsLim (fun k => run E k 98 (x0, x1)) (slices_Grow__mean_Pair x0 x1) := .run _ _
/-! redress/sign.Both -/
noncomputable def sign_Both [Dfr] (x0 : Int) (x1 : Int) : Option (Int) := lim fun k => run E k 99 (x0, x1)
theorem sign_Both_lim [Dfr] (x0 : Int) (x1 : Int) : IsLim (fun k => run E k 99 (x0, x1)) (sign_Both x0 x1) := .run _ _
/-! redress/trace.Mix -/
noncomputable def trace_Mix [Dfr] (x0 : List ByteArray) (x1 : List ByteArray) : Option (List (List ByteArray)) := lim fun k => run E k 100 (x0, x1)
theorem trace_Mix_lim [Dfr] (x0 : List ByteArray) (x1 : List ByteArray) : IsLim (fun k => run E k 100 (x0, x1)) (trace_Mix x0 x1) := .run _ _
/-! redress/mean.set$1 -/
noncomputable def mean_set_1 [Dfr] (x0 : Tc × Tc) (x1 : Tc × Tc) : Option (Int) := lim fun k => run E k 101 (x0, x1)
/-! cmp.Or[int] -/
noncomputable def cmp_Or__int [Dfr] (x0 : List Int) : Option (Int) := lim fun k => run E k 102 x0
theorem cmp_Or__int_lim [Dfr] (x0 : List Int) : IsLim (fun k => run E k 102 x0) (cmp_Or__int x0) := .run _ _
noncomputable def cmp_Or__int_l0 [Dfr] (y2 : Int) (y3 : Int) (y6 : List Int) (y7 : Int) (y8 : Int) : Option (Nat × (Int × Int)) := lim fun k => lp E 102 0 k k (y2, y3, y6, y7, y8)
theorem cmp_Or__int_l0_lim [Dfr] (y2 : Int) (y3 : Int) (y6 : List Int) (y7 : Int) (y8 : Int) : IsLim (fun k => lp E 102 0 k k (y2, y3, y6, y7, y8)) (cmp_Or__int_l0 y2 y3 y6 y7 y8) := .lp _ _ _
/-! redress/trace.Compare -/
noncomputable def trace_Compare [Dfr] (x0 : Tc) (x1 : Tc) : Option (Int) := lim fun k => run E k 103 (x0, x1)
theorem trace_Compare_lim [Dfr] (x0 : Tc) (x1 : Tc) : IsLim (fun k => run E k 103 (x0, x1)) (trace_Compare x0 x1) := .run _ _
/-! redress/mean.set$2 -/
noncomputable def mean_set_2 [Dfr] (x0 : Tc × Tc) (x1 : Tc × Tc) (x2 : Nat) : Option (Bool) := lim fun k => run E k 106 (x0, x1, x2)
/-! slices.Grow[[]redress/trace.Trace,redress/trace.Trace] -/
noncomputable def slices_Grow__trace_Trace [Dfr] (x0 : Unit) (x1 : Int) : Option (List Tc) := lim fun k => run E k 107 (x0, x1)
theorem slices_Grow__trace_Trace_lim [Dfr] (x0 : Unit) (x1 : Int) : IsLim (fun k => run E k 107 (x0, x1)) (slices_Grow__trace_Trace x0 x1) := .run _ _
/-! slices.Clone[[]redress/trace.Trace,redress/trace.Trace] -/
noncomputable def slices_Clone__trace_Trace [Dfr] (x0 : List Tc) : Option (List Tc) := lim fun k => run E k 108 x0
theorem slices_Clone__trace_Trace_lim [Dfr] (x0 : List Tc) : IsLim (fun k => run E k 108 x0) (slices_Clone__trace_Trace x0) := .run _ _
/-! (redress/trace.Trace).compare -/
noncomputable def trace_Trace_compare [Dfr] (x0 : Tc) (x1 : Tc) : Option (Int) := lim fun k => run E k 110 (x0, x1)
theorem trace_Trace_compare_lim [Dfr] (x0 : Tc) (x1 : Tc) : IsLim (fun k => run E k 110 (x0, x1)) (trace_Trace_compare x0 x1) := .run _ _
/-! redress/trace.Set$1 -/
noncomputable def trace_Set_1 [Dfr] (x0 : Tc) (x1 : Tc) : Option (Bool) := lim fun k => run E k 112 (x0, x1)
/-! redress/settle.over -/
noncomputable def settle_over [Dfr] (x0 : Int) : Option (List Nd) := lim fun k => run E k 113 x0
theorem settle_over_lim [Dfr] (x0 : Int) : IsLim (fun k => run E k 113 x0) (settle_over x0) := .run _ _
/-! redress/settle.behind -/
noncomputable def settle_behind [Dfr] (x0 : Nd) (x1 : List Nd) (x2 : List Nd) (x3 : Int) : Option (List Nd) := lim fun k => run E k 114 (x0, x1, x2, x3)
theorem settle_behind_lim [Dfr] (x0 : Nd) (x1 : List Nd) (x2 : List Nd) (x3 : Int) : IsLim (fun k => run E k 114 (x0, x1, x2, x3)) (settle_behind x0 x1 x2 x3) := .run _ _
/-! redress/settle.stack -/
noncomputable def settle_stack [Dfr] (x0 : List Nd) (x1 : List Nd) : Option (List Nd) := lim fun k => run E k 115 (x0, x1)
theorem settle_stack_lim [Dfr] (x0 : List Nd) (x1 : List Nd) : IsLim (fun k => run E k 115 (x0, x1)) (settle_stack x0 x1) := .run _ _
/-! redress/settle.Ended -/
noncomputable def settle_Ended [Dfr] (x0 : List Nd) : Option (Int × Bool) := lim fun k => run E k 116 x0
theorem settle_Ended_lim [Dfr] (x0 : List Nd) : IsLim (fun k => run E k 116 x0) (settle_Ended x0) := .run _ _
/-! redress/row.Make -/
noncomputable def row_Make [Dfr] (x0 : Nd) (x1 : List (List Nd)) : Option (List Nd) := lim fun k => run E k 117 (x0, x1)
theorem row_Make_lim [Dfr] (x0 : Nd) (x1 : List (List Nd)) : IsLim (fun k => run E k 117 (x0, x1)) (row_Make x0 x1) := .run _ _
/-! redress/settle.end -/
noncomputable def settle_end [Dfr] (x0 : Int) (x1 : List Nd) : Option (List Nd) := lim fun k => run E k 118 (x0, x1)
theorem settle_end_lim [Dfr] (x0 : Int) (x1 : List Nd) : IsLim (fun k => run E k 118 (x0, x1)) (settle_end x0 x1) := .run _ _
/-! redress/settle.par -/
noncomputable def settle_par [Dfr] (x0 : Nd) (x1 : List Nd) (x2 : List Nd) : Option (List Nd) := lim fun k => run E k 119 (x0, x1, x2)
theorem settle_par_lim [Dfr] (x0 : Nd) (x1 : List Nd) (x2 : List Nd) : IsLim (fun k => run E k 119 (x0, x1, x2)) (settle_par x0 x1 x2) := .run _ _
/-! redress/settle.block -/
noncomputable def settle_block [Dfr] (x0 : Nd) (x1 : List Nd) : Option (List Nd) := lim fun k => run E k 120 (x0, x1)
theorem settle_block_lim [Dfr] (x0 : Nd) (x1 : List Nd) : IsLim (fun k => run E k 120 (x0, x1)) (settle_block x0 x1) := .run _ _
/-! redress/redressref03.Whole -/
noncomputable def ref03_Whole [Dfr] (x0 : List Nd) : Option (Bool) := lim fun k => run E k 121 x0
theorem ref03_Whole_lim [Dfr] (x0 : List Nd) : IsLim (fun k => run E k 121 x0) (ref03_Whole x0) := .run _ _
noncomputable def ref03_Whole_l0 [Dfr] (y0 : List Nd) (y2 : Bool) (y3 : Int) : Option (Nat × (List Nd × Bool)) := lim fun k => lp E 121 0 k k (y0, y2, y3)
theorem ref03_Whole_l0_lim [Dfr] (y0 : List Nd) (y2 : Bool) (y3 : Int) : IsLim (fun k => lp E 121 0 k k (y0, y2, y3)) (ref03_Whole_l0 y0 y2 y3) := .lp _ _ _
/-! redress/redressref04.Is -/
noncomputable def ref04_Is [Dfr] (x0 : List Nd) (x1 : Int) : Option (Bool) := lim fun k => run E k 122 (x0, x1)
theorem ref04_Is_lim [Dfr] (x0 : List Nd) (x1 : Int) : IsLim (fun k => run E k 122 (x0, x1)) (ref04_Is x0 x1) := .run _ _
/-! redress/redressref10.over -/
noncomputable def ref10_over [Dfr] (x0 : Int) : Option (List Nd) := lim fun k => run E k 123 x0
theorem ref10_over_lim [Dfr] (x0 : Int) : IsLim (fun k => run E k 123 x0) (ref10_over x0) := .run _ _
/-! redress/redressref10.first -/
noncomputable def ref10_first [Dfr] (x0 : Int) (x1 : List Nd) (x2 : List Nd) : Option (List Nd) := lim fun k => run E k 124 (x0, x1, x2)
theorem ref10_first_lim [Dfr] (x0 : Int) (x1 : List Nd) (x2 : List Nd) : IsLim (fun k => run E k 124 (x0, x1, x2)) (ref10_first x0 x1 x2) := .run _ _
/-! redress/redressref10.par -/
noncomputable def ref10_par [Dfr] (x0 : List Nd) (x1 : List Nd) : Option (List Nd) := lim fun k => run E k 125 (x0, x1)
theorem ref10_par_lim [Dfr] (x0 : List Nd) (x1 : List Nd) : IsLim (fun k => run E k 125 (x0, x1)) (ref10_par x0 x1) := .run _ _
/-! redress/redressref10.block -/
noncomputable def ref10_block [Dfr] (x0 : List Nd) : Option (List Nd) := lim fun k => run E k 126 x0
theorem ref10_block_lim [Dfr] (x0 : List Nd) : IsLim (fun k => run E k 126 x0) (ref10_block x0) := .run _ _
/-! redress/row.named -/
noncomputable def row_named [Dfr] (x0 : ByteArray) : Option (Bool) := lim fun k => run E k 127 x0
theorem row_named_lim [Dfr] (x0 : ByteArray) : IsLim (fun k => run E k 127 x0) (row_named x0) := .run _ _
/-! slices.IndexFunc[[]redress/api.Node,redress/api.Node] -/
noncomputable def slices_IndexFunc__api_Node [Dfr] (x0 : List Nd) (x1 : FnV) : Option (Int) := lim fun k => run E k 128 (x0, x1)
theorem slices_IndexFunc__api_Node_lim [Dfr] (x0 : List Nd) (x1 : FnV) : IsLim (fun k => run E k 128 (x0, x1)) (slices_IndexFunc__api_Node x0 x1) := .run _ _
noncomputable def slices_IndexFunc__api_Node_l0 [Dfr] (y0 : List Nd) (y1 : FnV) (y4 : Int) (y7 : Int) (y8 : Int) : Option (Nat × Int) := lim fun k => lp E 128 0 k k (y0, y1, y4, y7, y8)
theorem slices_IndexFunc__api_Node_l0_lim [Dfr] (y0 : List Nd) (y1 : FnV) (y4 : Int) (y7 : Int) (y8 : Int) : IsLim (fun k => lp E 128 0 k k (y0, y1, y4, y7, y8)) (slices_IndexFunc__api_Node_l0 y0 y1 y4 y7 y8) := .lp _ _ _
/-! slices.Grow[[]string,string] -/
noncomputable def slices_Grow__string [Dfr] (x0 : Unit) (x1 : Int) : Option (List ByteArray) := lim fun k => run E k 129 (x0, x1)
theorem slices_Grow__string_lim [Dfr] (x0 : Unit) (x1 : Int) : IsLim (fun k => run E k 129 (x0, x1)) (slices_Grow__string x0 x1) := .run _ _
/-! redress/sign.Is -/
noncomputable def sign_Is [Dfr] (x0 : Int) : Option (Bool) := lim fun k => run E k 130 x0
theorem sign_Is_lim [Dfr] (x0 : Int) : IsLim (fun k => run E k 130 x0) (sign_Is x0) := .run _ _
/-! slices.Compare[[]string,string] -/
noncomputable def slices_Compare__string [Dfr] (x0 : List ByteArray) (x1 : List ByteArray) : Option (Int) := lim fun k => run E k 133 (x0, x1)
theorem slices_Compare__string_lim [Dfr] (x0 : List ByteArray) (x1 : List ByteArray) : IsLim (fun k => run E k 133 (x0, x1)) (slices_Compare__string x0 x1) := .run _ _
noncomputable def slices_Compare__string_l0 [Dfr] (y0 : List ByteArray) (y1 : List ByteArray) (y4 : Int) (y9 : List ByteArray) (y10 : Int) (y11 : Int) : Option (Nat × (List ByteArray × List ByteArray × Int)) := lim fun k => lp E 133 0 k k (y0, y1, y4, y9, y10, y11)
theorem slices_Compare__string_l0_lim [Dfr] (y0 : List ByteArray) (y1 : List ByteArray) (y4 : Int) (y9 : List ByteArray) (y10 : Int) (y11 : Int) : IsLim (fun k => lp E 133 0 k k (y0, y1, y4, y9, y10, y11)) (slices_Compare__string_l0 y0 y1 y4 y9 y10 y11) := .lp _ _ _
/-! slices.Equal[[]string,string] -/
noncomputable def slices_Equal__string [Dfr] (x0 : List ByteArray) (x1 : List ByteArray) : Option (Bool) := lim fun k => run E k 135 (x0, x1)
noncomputable def slices_Equal__string_l0 [Dfr] (y0 : List ByteArray) (y1 : List ByteArray) (y4 : Bool) (y12 : Int) (y13 : Int) : Option (Nat × Bool) := lim fun k => lp E 135 0 k k (y0, y1, y4, y12, y13)
theorem slices_Equal__string_l0_lim [Dfr] (y0 : List ByteArray) (y1 : List ByteArray) (y4 : Bool) (y12 : Int) (y13 : Int) : IsLim (fun k => lp E 135 0 k k (y0, y1, y4, y12, y13)) (slices_Equal__string_l0 y0 y1 y4 y12 y13) := .lp _ _ _
/-! cmp.Compare[int] -/
noncomputable def cmp_Compare__int [Dfr] (x0 : Int) (x1 : Int) : Option (Int) := lim fun k => run E k 139 (x0, x1)
theorem cmp_Compare__int_lim [Dfr] (x0 : Int) (x1 : Int) : IsLim (fun k => run E k 139 (x0, x1)) (cmp_Compare__int x0 x1) := .run _ _
/-! slices.Concat[[]redress/api.Node,redress/api.Node] -/
noncomputable def slices_Concat__api_Node [Dfr] (x0 : List (List Nd)) : Option (List Nd) := lim fun k => run E k 140 x0
theorem slices_Concat__api_Node_lim [Dfr] (x0 : List (List Nd)) : IsLim (fun k => run E k 140 x0) (slices_Concat__api_Node x0) := .run _ _
noncomputable def slices_Concat__api_Node_l0 [Dfr] (y0 : List (List Nd)) (y3 : Int) (y9 : List (List Nd)) (y10 : Int) (y11 : Int) : Option (Nat × (List (List Nd) × Int)) := lim fun k => lp E 140 0 k k (y0, y3, y9, y10, y11)
theorem slices_Concat__api_Node_l0_lim [Dfr] (y0 : List (List Nd)) (y3 : Int) (y9 : List (List Nd)) (y10 : Int) (y11 : Int) : IsLim (fun k => lp E 140 0 k k (y0, y3, y9, y10, y11)) (slices_Concat__api_Node_l0 y0 y3 y9 y10 y11) := .lp _ _ _
noncomputable def slices_Concat__api_Node_l2 [Dfr] (y6 : List Nd) (y25 : List (List Nd)) (y26 : Int) (y27 : Int) : Option (Nat × List Nd) := lim fun k => lp E 140 2 k k (y6, y25, y26, y27)
theorem slices_Concat__api_Node_l2_lim [Dfr] (y6 : List Nd) (y25 : List (List Nd)) (y26 : Int) (y27 : Int) : IsLim (fun k => lp E 140 2 k k (y6, y25, y26, y27)) (slices_Concat__api_Node_l2 y6 y25 y26 y27) := .lp _ _ _
/-! redress/redressref03.Right -/
noncomputable def ref03_Right [Dfr] (x0 : Nd) : Option (Bool) := lim fun k => run E k 141 x0
theorem ref03_Right_lim [Dfr] (x0 : Nd) : IsLim (fun k => run E k 141 x0) (ref03_Right x0) := .run _ _
noncomputable def ref03_Right_l0 [Dfr] (y1 : Nd) (y2 : Bool) (y3 : Int) : Option (Nat × (Nd × Bool)) := lim fun k => lp E 141 0 k k (y1, y2, y3)
theorem ref03_Right_l0_lim [Dfr] (y1 : Nd) (y2 : Bool) (y3 : Int) : IsLim (fun k => lp E 141 0 k k (y1, y2, y3)) (ref03_Right_l0 y1 y2 y3) := .lp _ _ _
/-! redress/redressref04.plain -/
noncomputable def ref04_plain [Dfr] (x0 : List Nd) (x1 : List (List Nd)) : Option (Bool) := lim fun k => run E k 142 (x0, x1)
theorem ref04_plain_lim [Dfr] (x0 : List Nd) (x1 : List (List Nd)) : IsLim (fun k => run E k 142 (x0, x1)) (ref04_plain x0 x1) := .run _ _
/-! redress/redressref04.paired -/
noncomputable def ref04_paired [Dfr] (x0 : List Nd) (x1 : List (List Nd)) : Option (Bool) := lim fun k => run E k 143 (x0, x1)
theorem ref04_paired_lim [Dfr] (x0 : List Nd) (x1 : List (List Nd)) : IsLim (fun k => run E k 143 (x0, x1)) (ref04_paired x0 x1) := .run _ _
/-! redress/redressref04.plainOn -/
noncomputable def ref04_plainOn [Dfr] (x0 : List Nd) (x1 : List (List Nd)) : Option (Bool) := lim fun k => run E k 144 (x0, x1)
theorem ref04_plainOn_lim [Dfr] (x0 : List Nd) (x1 : List (List Nd)) : IsLim (fun k => run E k 144 (x0, x1)) (ref04_plainOn x0 x1) := .run _ _
/-! redress/redressref04.pairedOn -/
noncomputable def ref04_pairedOn [Dfr] (x0 : List Nd) (x1 : List (List Nd)) : Option (Bool) := lim fun k => run E k 145 (x0, x1)
theorem ref04_pairedOn_lim [Dfr] (x0 : List Nd) (x1 : List (List Nd)) : IsLim (fun k => run E k 145 (x0, x1)) (ref04_pairedOn x0 x1) := .run _ _
/-! redress/redressref10.node -/
noncomputable def ref10_node [Dfr] (x0 : Int) (x1 : Int) : Option (Nd) := lim fun k => run E k 146 (x0, x1)
theorem ref10_node_lim [Dfr] (x0 : Int) (x1 : Int) : IsLim (fun k => run E k 146 (x0, x1)) (ref10_node x0 x1) := .run _ _
/-! redress/redressref10.end -/
noncomputable def ref10_end [Dfr] (x0 : Int) (x1 : List Nd) : Option (List Nd) := lim fun k => run E k 147 (x0, x1)
theorem ref10_end_lim [Dfr] (x0 : Int) (x1 : List Nd) : IsLim (fun k => run E k 147 (x0, x1)) (ref10_end x0 x1) := .run _ _
/-! redress/redressref03.Two -/
noncomputable def ref03_Two [Dfr] (x0 : Nd) (x1 : List Nd) (x2 : List Nd) : Option (List Nd) := lim fun k => run E k 148 (x0, x1, x2)
theorem ref03_Two_lim [Dfr] (x0 : Nd) (x1 : List Nd) (x2 : List Nd) : IsLim (fun k => run E k 148 (x0, x1, x2)) (ref03_Two x0 x1 x2) := .run _ _
/-! redress/redressref01.Both -/
noncomputable def ref01_Both [Dfr] (x0 : Int) (x1 : Int) : Option (Int) := lim fun k => run E k 149 (x0, x1)
theorem ref01_Both_lim [Dfr] (x0 : Int) (x1 : Int) : IsLim (fun k => run E k 149 (x0, x1)) (ref01_Both x0 x1) := .run _ _
/-! redress/redressref03.One -/
noncomputable def ref03_One [Dfr] (x0 : Nd) (x1 : List Nd) : Option (List Nd) := lim fun k => run E k 150 (x0, x1)
theorem ref03_One_lim [Dfr] (x0 : Nd) (x1 : List Nd) : IsLim (fun k => run E k 150 (x0, x1)) (ref03_One x0 x1) := .run _ _
/-! strings.Trim -/
noncomputable def strings_Trim [Dfr] (x0 : ByteArray) (x1 : ByteArray) : Option (ByteArray) := lim fun k => run E k 151 (x0, x1)
theorem strings_Trim_lim [Dfr] (x0 : ByteArray) (x1 : ByteArray) : IsLim (fun k => run E k 151 (x0, x1)) (strings_Trim x0 x1) := .run _ _
/-! slices.Contains[[]string,string] -/
noncomputable def slices_Contains__string [Dfr] (x0 : List ByteArray) (x1 : ByteArray) : Option (Bool) := lim fun k => run E k 152 (x0, x1)
theorem slices_Contains__string_lim [Dfr] (x0 : List ByteArray) (x1 : ByteArray) : IsLim (fun k => run E k 152 (x0, x1)) (slices_Contains__string x0 x1) := .run _ _
/-! cmp.Compare[string] -/
noncomputable def cmp_Compare__string [Dfr] (x0 : ByteArray) (x1 : ByteArray) : Option (Int) := lim fun k => run E k 154 (x0, x1)
theorem cmp_Compare__string_lim [Dfr] (x0 : ByteArray) (x1 : ByteArray) : IsLim (fun k => run E k 154 (x0, x1)) (cmp_Compare__string x0 x1) := .run _ _
/-! cmp.isNaN[int] -/
noncomputable def cmp_isNaN__int [Dfr] (x0 : Int) : Option (Bool) := lim fun k => run E k 173 x0
theorem cmp_isNaN__int_lim [Dfr] (x0 : Int) : IsLim (fun k => run E k 173 x0) (cmp_isNaN__int x0) := .run _ _
/-! slices.Grow[[]redress/api.Node,redress/api.Node] -/
noncomputable def slices_Grow__api_Node [Dfr] (x0 : Unit) (x1 : Int) : Option (List Nd) := lim fun k => run E k 174 (x0, x1)
theorem slices_Grow__api_Node_lim [Dfr] (x0 : Unit) (x1 : Int) : IsLim (fun k => run E k 174 (x0, x1)) (slices_Grow__api_Node x0 x1) := .run _ _
/-! redress/redressref03.word -/
noncomputable def ref03_word [Dfr] (x0 : ByteArray) : Option (Bool) := lim fun k => run E k 175 x0
theorem ref03_word_lim [Dfr] (x0 : ByteArray) : IsLim (fun k => run E k 175 x0) (ref03_word x0) := .run _ _
/-! redress/redressref01.Is -/
noncomputable def ref01_Is [Dfr] (x0 : Int) : Option (Bool) := lim fun k => run E k 176 x0
theorem ref01_Is_lim [Dfr] (x0 : Int) : IsLim (fun k => run E k 176 x0) (ref01_Is x0) := .run _ _
/-! slices.Index[[]string,string] -/
noncomputable def slices_Index__string [Dfr] (x0 : List ByteArray) (x1 : ByteArray) : Option (Int) := lim fun k => run E k 184 (x0, x1)
theorem slices_Index__string_lim [Dfr] (x0 : List ByteArray) (x1 : ByteArray) : IsLim (fun k => run E k 184 (x0, x1)) (slices_Index__string x0 x1) := .run _ _
noncomputable def slices_Index__string_l0 [Dfr] (y0 : List ByteArray) (y1 : ByteArray) (y4 : Int) (y7 : Int) (y8 : Int) : Option (Nat × Int) := lim fun k => lp E 184 0 k k (y0, y1, y4, y7, y8)
theorem slices_Index__string_l0_lim [Dfr] (y0 : List ByteArray) (y1 : ByteArray) (y4 : Int) (y7 : Int) (y8 : Int) : IsLim (fun k => lp E 184 0 k k (y0, y1, y4, y7, y8)) (slices_Index__string_l0 y0 y1 y4 y7 y8) := .lp _ _ _
/-! cmp.isNaN[string] -/
noncomputable def cmp_isNaN__string [Dfr] (x0 : ByteArray) : Option (Bool) := lim fun k => run E k 193 x0
theorem cmp_isNaN__string_lim [Dfr] (x0 : ByteArray) : IsLim (fun k => run E k 193 x0) (cmp_isNaN__string x0) := .run _ _
end Go.Proofs.YtdbabacjmkfkgaaGreatDoor.Sv
