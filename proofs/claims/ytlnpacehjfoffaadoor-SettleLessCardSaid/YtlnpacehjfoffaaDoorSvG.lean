/- The functions of the seat by name, as the evaluator tells them: what each tells in the end, and its equation, checked by the kernel. Written by a program (gen.py, emit3.py). -/

import Derived.Test.YtlnpacehjfoffaaDoorSvE
namespace Go.Proofs.YtlnpacehjfoffaaDoor.Sv
open Go Go.Sv Go.Proofs
set_option linter.unusedVariables false
set_option maxRecDepth 100000
/-! redress/redresslaw10.SettleAll -/
noncomputable def law10_SettleAll (x0 : List Nd) : Option (Bool) := lim fun k => run E k 3 x0
theorem law10_SettleAll_lim (x0 : List Nd) : IsLim (fun k => run E k 3 x0) (law10_SettleAll x0) := .run _ _
/-! redress/redresslaw10.SettleBegins -/
noncomputable def law10_SettleBegins (x0 : List Nd) : Option (Bool) := lim fun k => run E k 4 x0
theorem law10_SettleBegins_lim (x0 : List Nd) : IsLim (fun k => run E k 4 x0) (law10_SettleBegins x0) := .run _ _
/-! redress/redresslaw10.SettleTwice -/
noncomputable def law10_SettleTwice (x0 : List Nd) : Option (Bool) := lim fun k => run E k 5 x0
theorem law10_SettleTwice_lim (x0 : List Nd) : IsLim (fun k => run E k 5 x0) (law10_SettleTwice x0) := .run _ _
/-! redress/redresslaw10.SettleEnds -/
noncomputable def law10_SettleEnds (x0 : List Nd) : Option (Bool) := lim fun k => run E k 6 x0
theorem law10_SettleEnds_lim (x0 : List Nd) : IsLim (fun k => run E k 6 x0) (law10_SettleEnds x0) := .run _ _
/-! redress/redresslaw10.SettleUnder -/
noncomputable def law10_SettleUnder (x0 : List Nd) (x1 : List Nd) : Option (Bool) := lim fun k => run E k 7 (x0, x1)
theorem law10_SettleUnder_lim (x0 : List Nd) (x1 : List Nd) : IsLim (fun k => run E k 7 (x0, x1)) (law10_SettleUnder x0 x1) := .run _ _
/-! redress/redresslaw10.SettleLess -/
noncomputable def law10_SettleLess (x0 : List Nd) : Option (Bool) := lim fun k => run E k 8 x0
theorem law10_SettleLess_lim (x0 : List Nd) : IsLim (fun k => run E k 8 x0) (law10_SettleLess x0) := .run _ _
noncomputable def law10_SettleLess_l2 (y0 : List Nd) (y2 : Bool) (y3 : List Nd) (y4 : Int) (y5 : Int) (y30 : List Nd) (y31 : Int) (y32 : Int) : Option (Nat × (List Nd × Bool × List Nd × Int × Int)) := lim fun k => lp E 8 2 k k (y0, y2, y3, y4, y5, y30, y31, y32)
theorem law10_SettleLess_l2_lim (y0 : List Nd) (y2 : Bool) (y3 : List Nd) (y4 : Int) (y5 : Int) (y30 : List Nd) (y31 : Int) (y32 : Int) : IsLim (fun k => lp E 8 2 k k (y0, y2, y3, y4, y5, y30, y31, y32)) (law10_SettleLess_l2 y0 y2 y3 y4 y5 y30 y31 y32) := .lp _ _ _
noncomputable def law10_SettleLess_l4 (y0 : List Nd) (y2 : Bool) (y3 : List Nd) (y4 : Int) (y5 : Int) (y43 : List Nd) (y44 : Int) (y45 : Int) : Option (Nat × (List Nd × Bool × List Nd × Int × Int)) := lim fun k => lp E 8 4 k k (y0, y2, y3, y4, y5, y43, y44, y45)
theorem law10_SettleLess_l4_lim (y0 : List Nd) (y2 : Bool) (y3 : List Nd) (y4 : Int) (y5 : Int) (y43 : List Nd) (y44 : Int) (y45 : Int) : IsLim (fun k => lp E 8 4 k k (y0, y2, y3, y4, y5, y43, y44, y45)) (law10_SettleLess_l4 y0 y2 y3 y4 y5 y43 y44 y45) := .lp _ _ _
noncomputable def law10_SettleLess_l0 (y0 : List Nd) (y2 : Bool) (y3 : List Nd) (y4 : Int) : Option (Nat × (List Nd × Bool × List Nd)) := lim fun k => lp E 8 0 k k (y0, y2, y3, y4)
theorem law10_SettleLess_l0_lim (y0 : List Nd) (y2 : Bool) (y3 : List Nd) (y4 : Int) : IsLim (fun k => lp E 8 0 k k (y0, y2, y3, y4)) (law10_SettleLess_l0 y0 y2 y3 y4) := .lp _ _ _
noncomputable def law10_SettleLess_l8 (y0 : List Nd) (y2 : Bool) (y11 : ByteArray) (y12 : Bool) (y87 : List ByteArray) (y88 : Int) (y89 : Int) (y93 : List Nd) (y94 : Int) (y95 : Int) : Option (Nat × (List Nd × Bool × Bool × List ByteArray × Int × Int)) := lim fun k => lp E 8 8 k k (y0, y2, y11, y12, y87, y88, y89, y93, y94, y95)
theorem law10_SettleLess_l8_lim (y0 : List Nd) (y2 : Bool) (y11 : ByteArray) (y12 : Bool) (y87 : List ByteArray) (y88 : Int) (y89 : Int) (y93 : List Nd) (y94 : Int) (y95 : Int) : IsLim (fun k => lp E 8 8 k k (y0, y2, y11, y12, y87, y88, y89, y93, y94, y95)) (law10_SettleLess_l8 y0 y2 y11 y12 y87 y88 y89 y93 y94 y95) := .lp _ _ _
noncomputable def law10_SettleLess_l6 (y0 : List Nd) (y2 : Bool) (y87 : List ByteArray) (y88 : Int) (y89 : Int) : Option (Nat × Bool) := lim fun k => lp E 8 6 k k (y0, y2, y87, y88, y89)
theorem law10_SettleLess_l6_lim (y0 : List Nd) (y2 : Bool) (y87 : List ByteArray) (y88 : Int) (y89 : Int) : IsLim (fun k => lp E 8 6 k k (y0, y2, y87, y88, y89)) (law10_SettleLess_l6 y0 y2 y87 y88 y89) := .lp _ _ _
/-! redress/redresslaw10.few -/
noncomputable def law10_few (x0 : List Nd) : Option (Bool) := lim fun k => run E k 9 x0
theorem law10_few_lim (x0 : List Nd) : IsLim (fun k => run E k 9 x0) (law10_few x0) := .run _ _
/-! redress/redresslaw10.alive -/
noncomputable def law10_alive : Option (Bool) := lim fun k => run E k 10 ()
theorem law10_alive_lim : IsLim (fun k => run E k 10 ()) (law10_alive) := .run _ _
/-! redress/settle.Settle -/
noncomputable def settle_Settle (x0 : List Nd) : Option (List Nd) := lim fun k => run E k 11 x0
theorem settle_Settle_lim (x0 : List Nd) : IsLim (fun k => run E k 11 x0) (settle_Settle x0) := .run _ _
/-! redress/redressref03.Same -/
noncomputable def ref03_Same (x0 : List Nd) (x1 : List Nd) : Option (Bool) := lim fun k => run E k 12 (x0, x1)
theorem ref03_Same_lim (x0 : List Nd) (x1 : List Nd) : IsLim (fun k => run E k 12 (x0, x1)) (ref03_Same x0 x1) := .run _ _
noncomputable def ref03_Same_l0 (y0 : List Nd) (y1 : List Nd) (y4 : Bool) (y5 : Int) : Option (Nat × Bool) := lim fun k => lp E 12 0 k k (y0, y1, y4, y5)
theorem ref03_Same_l0_lim (y0 : List Nd) (y1 : List Nd) (y4 : Bool) (y5 : Int) : IsLim (fun k => lp E 12 0 k k (y0, y1, y4, y5)) (ref03_Same_l0 y0 y1 y4 y5) := .lp _ _ _
/-! redress/redressref10.Settle -/
noncomputable def ref10_Settle (x0 : List Nd) : Option (List Nd) := lim fun k => run E k 13 x0
theorem ref10_Settle_lim (x0 : List Nd) : IsLim (fun k => run E k 13 x0) (ref10_Settle x0) := .run _ _
/-! redress/settle.Ended -/
noncomputable def settle_Ended (x0 : List Nd) : Option (Int × Bool) := lim fun k => run E k 14 x0
theorem settle_Ended_lim (x0 : List Nd) : IsLim (fun k => run E k 14 x0) (settle_Ended x0) := .run _ _
/-! redress/settle.Begin -/
noncomputable def settle_Begin (x0 : List Nd) : Option (List Nd) := lim fun k => run E k 15 x0
theorem settle_Begin_lim (x0 : List Nd) : IsLim (fun k => run E k 15 x0) (settle_Begin x0) := .run _ _
/-! redress/redressref10.Begin -/
noncomputable def ref10_Begin (x0 : List Nd) : Option (List Nd) := lim fun k => run E k 16 x0
theorem ref10_Begin_lim (x0 : List Nd) : IsLim (fun k => run E k 16 x0) (ref10_Begin x0) := .run _ _
/-! redress/settle.Settled -/
noncomputable def settle_Settled (x0 : List Nd) : Option (Bool) := lim fun k => run E k 17 x0
theorem settle_Settled_lim (x0 : List Nd) : IsLim (fun k => run E k 17 x0) (settle_Settled x0) := .run _ _
/-! redress/sort.On -/
noncomputable def sort_On (x0 : List Nd) (x1 : Bool) : Option (Bool) := lim fun k => run E k 18 (x0, x1)
theorem sort_On_lim (x0 : List Nd) (x1 : Bool) : IsLim (fun k => run E k 18 (x0, x1)) (sort_On x0 x1) := .run _ _
/-! redress/redresslaw10.waits -/
noncomputable def law10_waits (x0 : List Nd) : Option (Bool) := lim fun k => run E k 19 x0
theorem law10_waits_lim (x0 : List Nd) : IsLim (fun k => run E k 19 x0) (law10_waits x0) := .run _ _
/-! redress/redresslaw10.stuck -/
noncomputable def law10_stuck (x0 : List Nd) : Option (Bool) := lim fun k => run E k 20 x0
theorem law10_stuck_lim (x0 : List Nd) : IsLim (fun k => run E k 20 x0) (law10_stuck x0) := .run _ _
/-! redress/redressref03.Two -/
noncomputable def ref03_Two (x0 : Nd) (x1 : List Nd) (x2 : List Nd) : Option (List Nd) := lim fun k => run E k 21 (x0, x1, x2)
theorem ref03_Two_lim (x0 : Nd) (x1 : List Nd) (x2 : List Nd) : IsLim (fun k => run E k 21 (x0, x1, x2)) (ref03_Two x0 x1 x2) := .run _ _
/-! redress/redressref03.One -/
noncomputable def ref03_One (x0 : Nd) (x1 : List Nd) : Option (List Nd) := lim fun k => run E k 22 (x0, x1)
theorem ref03_One_lim (x0 : Nd) (x1 : List Nd) : IsLim (fun k => run E k 22 (x0, x1)) (ref03_One x0 x1) := .run _ _
/-! redress/sort.Acts -/
noncomputable def sort_Acts (x0 : List Nd) : Option (List ByteArray) := lim fun k => run E k 23 x0
theorem sort_Acts_lim (x0 : List Nd) : IsLim (fun k => run E k 23 x0) (sort_Acts x0) := .run _ _
noncomputable def sort_Acts_l0 (y3 : List ByteArray) (y6 : List Nd) (y7 : Int) (y8 : Int) : Option (Nat × List ByteArray) := lim fun k => lp E 23 0 k k (y3, y6, y7, y8)
theorem sort_Acts_l0_lim (y3 : List ByteArray) (y6 : List Nd) (y7 : Int) (y8 : Int) : IsLim (fun k => lp E 23 0 k k (y3, y6, y7, y8)) (sort_Acts_l0 y3 y6 y7 y8) := .lp _ _ _
/-! redress/redresslaw10.act -/
noncomputable def law10_act (x0 : ByteArray) : Option (Nd) := lim fun k => run E k 24 x0
theorem law10_act_lim (x0 : ByteArray) : IsLim (fun k => run E k 24 x0) (law10_act x0) := .run _ _
/-! redress/redressref03.Depth -/
noncomputable def ref03_Depth (x0 : List Nd) : Option (Int) := lim fun k => run E k 25 x0
theorem ref03_Depth_lim (x0 : List Nd) : IsLim (fun k => run E k 25 x0) (ref03_Depth x0) := .run _ _
/-! redress/settle.settle -/
noncomputable def settle_settle (x0 : List Nd) : Option (List Nd) := lim fun k => run E k 26 x0
theorem settle_settle_lim (x0 : List Nd) : IsLim (fun k => run E k 26 x0) (settle_settle x0) := .run _ _
/-! redress/redressref04.Of -/
noncomputable def ref04_Of (x0 : List Nd) : Option (Int) := lim fun k => run E k 27 x0
theorem ref04_Of_lim (x0 : List Nd) : IsLim (fun k => run E k 27 x0) (ref04_Of x0) := .run _ _
noncomputable def ref04_Of_l0 (y0 : List Nd) (y2 : Int) (y3 : Int) : Option (Nat × Int) := lim fun k => lp E 27 0 k k (y0, y2, y3)
theorem ref04_Of_l0_lim (y0 : List Nd) (y2 : Int) (y3 : Int) : IsLim (fun k => lp E 27 0 k k (y0, y2, y3)) (ref04_Of_l0 y0 y2 y3) := .lp _ _ _
/-! redress/redressref10.Tree -/
noncomputable def ref10_Tree (x0 : List Nd) : Option (List Nd) := lim fun k => run E k 28 x0
theorem ref10_Tree_lim (x0 : List Nd) : IsLim (fun k => run E k 28 x0) (ref10_Tree x0) := .run _ _
/-! redress/sort.Right -/
noncomputable def sort_Right (x0 : List Nd) : Option (Bool) := lim fun k => run E k 29 x0
theorem sort_Right_lim (x0 : List Nd) : IsLim (fun k => run E k 29 x0) (sort_Right x0) := .run _ _
/-! redress/redressref04.Right -/
noncomputable def ref04_Right (x0 : List Nd) : Option (Bool) := lim fun k => run E k 30 x0
theorem ref04_Right_lim (x0 : List Nd) : IsLim (fun k => run E k 30 x0) (ref04_Right x0) := .run _ _
/-! redress/row.Same -/
noncomputable def row_Same (x0 : List Nd) (x1 : List Nd) : Option (Bool) := lim fun k => run E k 31 (x0, x1)
theorem row_Same_lim (x0 : List Nd) (x1 : List Nd) : IsLim (fun k => run E k 31 (x0, x1)) (row_Same x0 x1) := .run _ _
/-! redress/sort.on -/
noncomputable def sort_on (x0 : Int) : Option (Int) := lim fun k => run E k 32 x0
theorem sort_on_lim (x0 : Int) : IsLim (fun k => run E k 32 x0) (sort_on x0) := .run _ _
/-! redress/sort.Of -/
noncomputable def sort_Of (x0 : List Nd) : Option (Int) := lim fun k => run E k 33 x0
theorem sort_Of_lim (x0 : List Nd) : IsLim (fun k => run E k 33 x0) (sort_Of x0) := .run _ _
/-! redress/redressref03.Kids -/
noncomputable def ref03_Kids (x0 : List Nd) : Option (List (List Nd)) := lim fun k => run E k 34 x0
theorem ref03_Kids_lim (x0 : List Nd) : IsLim (fun k => run E k 34 x0) (ref03_Kids x0) := .run _ _
noncomputable def ref03_Kids_l0 (y0 : List Nd) (y3 : List (List Nd)) (y4 : Int) (y5 : Int) : Option (Nat × List (List Nd)) := lim fun k => lp E 34 0 k k (y0, y3, y4, y5)
theorem ref03_Kids_l0_lim (y0 : List Nd) (y3 : List (List Nd)) (y4 : Int) (y5 : Int) : IsLim (fun k => lp E 34 0 k k (y0, y3, y4, y5)) (ref03_Kids_l0 y0 y3 y4 y5) := .lp _ _ _
/-! slices.Contains[[]string,string] -/
noncomputable def slices_Contains__string (x0 : List ByteArray) (x1 : ByteArray) : Option (Bool) := lim fun k => run E k 35 (x0, x1)
theorem slices_Contains__string_lim (x0 : List ByteArray) (x1 : ByteArray) : IsLim (fun k => run E k 35 (x0, x1)) (slices_Contains__string x0 x1) := .run _ _
/-! redress/redressref03.Walk -/
noncomputable def ref03_Walk (x0 : List Nd) (x1 : Int) : Option (Int × Int) := lim fun k => run E k 36 (x0, x1)
theorem ref03_Walk_lim (x0 : List Nd) (x1 : Int) : IsLim (fun k => run E k 36 (x0, x1)) (ref03_Walk x0 x1) := .run _ _
noncomputable def ref03_Walk_l0 (y0 : List Nd) (y1 : Int) (y4 : Int) (y5 : Int) (y6 : Int) (y7 : Int) (y8 : Int) : Option (Nat × (Int × Int × Int × Int)) := lim fun k => lp E 36 0 k k (y0, y1, y4, y5, y6, y7, y8)
theorem ref03_Walk_l0_lim (y0 : List Nd) (y1 : Int) (y4 : Int) (y5 : Int) (y6 : Int) (y7 : Int) (y8 : Int) : IsLim (fun k => lp E 36 0 k k (y0, y1, y4, y5, y6, y7, y8)) (ref03_Walk_l0 y0 y1 y4 y5 y6 y7 y8) := .lp _ _ _
/-! redress/row.Kids -/
noncomputable def row_Kids (x0 : List Nd) : Option (List (List Nd)) := lim fun k => run E k 37 x0
theorem row_Kids_lim (x0 : List Nd) : IsLim (fun k => run E k 37 x0) (row_Kids x0) := .run _ _
noncomputable def row_Kids_l0 (y0 : List Nd) (y3 : List (List Nd)) (y4 : Int) (y13 : Int) (y14 : Int) : Option (Nat × List (List Nd)) := lim fun k => lp E 37 0 k k (y0, y3, y4, y13, y14)
theorem row_Kids_l0_lim (y0 : List Nd) (y3 : List (List Nd)) (y4 : Int) (y13 : Int) (y14 : Int) : IsLim (fun k => lp E 37 0 k k (y0, y3, y4, y13, y14)) (row_Kids_l0 y0 y3 y4 y13 y14) := .lp _ _ _
/-! redress/settle.over -/
noncomputable def settle_over (x0 : Int) : Option (List Nd) := lim fun k => run E k 38 x0
theorem settle_over_lim (x0 : Int) : IsLim (fun k => run E k 38 x0) (settle_over x0) := .run _ _
/-! redress/settle.behind -/
noncomputable def settle_behind (x0 : Nd) (x1 : List Nd) (x2 : List Nd) (x3 : Int) : Option (List Nd) := lim fun k => run E k 39 (x0, x1, x2, x3)
theorem settle_behind_lim (x0 : Nd) (x1 : List Nd) (x2 : List Nd) (x3 : Int) : IsLim (fun k => run E k 39 (x0, x1, x2, x3)) (settle_behind x0 x1 x2 x3) := .run _ _
/-! redress/settle.stack -/
noncomputable def settle_stack (x0 : List Nd) (x1 : List Nd) : Option (List Nd) := lim fun k => run E k 40 (x0, x1)
theorem settle_stack_lim (x0 : List Nd) (x1 : List Nd) : IsLim (fun k => run E k 40 (x0, x1)) (settle_stack x0 x1) := .run _ _
/-! redress/row.Make -/
noncomputable def row_Make (x0 : Nd) (x1 : List (List Nd)) : Option (List Nd) := lim fun k => run E k 41 (x0, x1)
theorem row_Make_lim (x0 : Nd) (x1 : List (List Nd)) : IsLim (fun k => run E k 41 (x0, x1)) (row_Make x0 x1) := .run _ _
/-! redress/settle.end -/
noncomputable def settle_end (x0 : Int) (x1 : List Nd) : Option (List Nd) := lim fun k => run E k 42 (x0, x1)
theorem settle_end_lim (x0 : Int) (x1 : List Nd) : IsLim (fun k => run E k 42 (x0, x1)) (settle_end x0 x1) := .run _ _
/-! redress/settle.par -/
noncomputable def settle_par (x0 : Nd) (x1 : List Nd) (x2 : List Nd) : Option (List Nd) := lim fun k => run E k 43 (x0, x1, x2)
theorem settle_par_lim (x0 : Nd) (x1 : List Nd) (x2 : List Nd) : IsLim (fun k => run E k 43 (x0, x1, x2)) (settle_par x0 x1 x2) := .run _ _
/-! redress/settle.block -/
noncomputable def settle_block (x0 : Nd) (x1 : List Nd) : Option (List Nd) := lim fun k => run E k 44 (x0, x1)
theorem settle_block_lim (x0 : Nd) (x1 : List Nd) : IsLim (fun k => run E k 44 (x0, x1)) (settle_block x0 x1) := .run _ _
/-! redress/redressref03.Whole -/
noncomputable def ref03_Whole (x0 : List Nd) : Option (Bool) := lim fun k => run E k 45 x0
theorem ref03_Whole_lim (x0 : List Nd) : IsLim (fun k => run E k 45 x0) (ref03_Whole x0) := .run _ _
noncomputable def ref03_Whole_l0 (y0 : List Nd) (y2 : Bool) (y3 : Int) : Option (Nat × (List Nd × Bool)) := lim fun k => lp E 45 0 k k (y0, y2, y3)
theorem ref03_Whole_l0_lim (y0 : List Nd) (y2 : Bool) (y3 : Int) : IsLim (fun k => lp E 45 0 k k (y0, y2, y3)) (ref03_Whole_l0 y0 y2 y3) := .lp _ _ _
/-! redress/redressref04.Is -/
noncomputable def ref04_Is (x0 : List Nd) (x1 : Int) : Option (Bool) := lim fun k => run E k 46 (x0, x1)
theorem ref04_Is_lim (x0 : List Nd) (x1 : Int) : IsLim (fun k => run E k 46 (x0, x1)) (ref04_Is x0 x1) := .run _ _
/-! redress/redressref10.over -/
noncomputable def ref10_over (x0 : Int) : Option (List Nd) := lim fun k => run E k 47 x0
theorem ref10_over_lim (x0 : Int) : IsLim (fun k => run E k 47 x0) (ref10_over x0) := .run _ _
/-! redress/redressref10.first -/
noncomputable def ref10_first (x0 : Int) (x1 : List Nd) (x2 : List Nd) : Option (List Nd) := lim fun k => run E k 48 (x0, x1, x2)
theorem ref10_first_lim (x0 : Int) (x1 : List Nd) (x2 : List Nd) : IsLim (fun k => run E k 48 (x0, x1, x2)) (ref10_first x0 x1 x2) := .run _ _
/-! redress/redressref10.par -/
noncomputable def ref10_par (x0 : List Nd) (x1 : List Nd) : Option (List Nd) := lim fun k => run E k 49 (x0, x1)
theorem ref10_par_lim (x0 : List Nd) (x1 : List Nd) : IsLim (fun k => run E k 49 (x0, x1)) (ref10_par x0 x1) := .run _ _
/-! redress/redressref10.block -/
noncomputable def ref10_block (x0 : List Nd) : Option (List Nd) := lim fun k => run E k 50 x0
theorem ref10_block_lim (x0 : List Nd) : IsLim (fun k => run E k 50 x0) (ref10_block x0) := .run _ _
/-! redress/sort.Term -/
noncomputable def sort_Term (x0 : List Nd) : Option (Bool) := lim fun k => run E k 51 x0
theorem sort_Term_lim (x0 : List Nd) : IsLim (fun k => run E k 51 x0) (sort_Term x0) := .run _ _
/-! redress/row.Depth -/
noncomputable def row_Depth (x0 : List Nd) : Option (Int) := lim fun k => run E k 52 x0
theorem row_Depth_lim (x0 : List Nd) : IsLim (fun k => run E k 52 x0) (row_Depth x0) := .run _ _
noncomputable def row_Depth_l0 (y3 : Int) (y10 : List (List Nd)) (y11 : Int) (y12 : Int) : Option (Nat × Int) := lim fun k => lp E 52 0 k k (y3, y10, y11, y12)
theorem row_Depth_l0_lim (y3 : Int) (y10 : List (List Nd)) (y11 : Int) (y12 : Int) : IsLim (fun k => lp E 52 0 k k (y3, y10, y11, y12)) (row_Depth_l0 y3 y10 y11 y12) := .lp _ _ _
/-! slices.Equal[[]redress/api.Node,redress/api.Node] -/
noncomputable def slices_Equal__api_Node (x0 : List Nd) (x1 : List Nd) : Option (Bool) := lim fun k => run E k 53 (x0, x1)
theorem slices_Equal__api_Node_lim (x0 : List Nd) (x1 : List Nd) : IsLim (fun k => run E k 53 (x0, x1)) (slices_Equal__api_Node x0 x1) := .run _ _
noncomputable def slices_Equal__api_Node_l0 (y0 : List Nd) (y1 : List Nd) (y4 : Bool) (y12 : Int) (y13 : Int) : Option (Nat × Bool) := lim fun k => lp E 53 0 k k (y0, y1, y4, y12, y13)
theorem slices_Equal__api_Node_l0_lim (y0 : List Nd) (y1 : List Nd) (y4 : Bool) (y12 : Int) (y13 : Int) : IsLim (fun k => lp E 53 0 k k (y0, y1, y4, y12, y13)) (slices_Equal__api_Node_l0 y0 y1 y4 y12 y13) := .lp _ _ _
/-! redress/row.Whole -/
noncomputable def row_Whole (x0 : List Nd) : Option (Bool) := lim fun k => run E k 54 x0
theorem row_Whole_lim (x0 : List Nd) : IsLim (fun k => run E k 54 x0) (row_Whole x0) := .run _ _
/-! redress/sort.sort -/
noncomputable def sort_sort (x0 : List Nd) : Option (Int) := lim fun k => run E k 55 x0
theorem sort_sort_lim (x0 : List Nd) : IsLim (fun k => run E k 55 x0) (sort_sort x0) := .run _ _
noncomputable def sort_sort_l0 (y0 : List Nd) (y2 : Int) (y3 : List Int) (y8 : List (List Nd)) (y9 : Int) (y10 : Int) : Option (Nat × (List Nd × Int × List Int)) := lim fun k => lp E 55 0 k k (y0, y2, y3, y8, y9, y10)
theorem sort_sort_l0_lim (y0 : List Nd) (y2 : Int) (y3 : List Int) (y8 : List (List Nd)) (y9 : Int) (y10 : Int) : IsLim (fun k => lp E 55 0 k k (y0, y2, y3, y8, y9, y10)) (sort_sort_l0 y0 y2 y3 y8 y9 y10) := .lp _ _ _
/-! redress/redressref03.Size -/
noncomputable def ref03_Size (x0 : List Nd) : Option (Int) := lim fun k => run E k 56 x0
theorem ref03_Size_lim (x0 : List Nd) : IsLim (fun k => run E k 56 x0) (ref03_Size x0) := .run _ _
/-! redress/redressref03.Arity -/
noncomputable def ref03_Arity (x0 : Int) : Option (Int) := lim fun k => run E k 57 x0
theorem ref03_Arity_lim (x0 : Int) : IsLim (fun k => run E k 57 x0) (ref03_Arity x0) := .run _ _
/-! slices.Index[[]string,string] -/
noncomputable def slices_Index__string (x0 : List ByteArray) (x1 : ByteArray) : Option (Int) := lim fun k => run E k 58 (x0, x1)
theorem slices_Index__string_lim (x0 : List ByteArray) (x1 : ByteArray) : IsLim (fun k => run E k 58 (x0, x1)) (slices_Index__string x0 x1) := .run _ _
noncomputable def slices_Index__string_l0 (y0 : List ByteArray) (y1 : ByteArray) (y4 : Int) (y7 : Int) (y8 : Int) : Option (Nat × Int) := lim fun k => lp E 58 0 k k (y0, y1, y4, y7, y8)
theorem slices_Index__string_l0_lim (y0 : List ByteArray) (y1 : ByteArray) (y4 : Int) (y7 : Int) (y8 : Int) : IsLim (fun k => lp E 58 0 k k (y0, y1, y4, y7, y8)) (slices_Index__string_l0 y0 y1 y4 y7 y8) := .lp _ _ _
/-! redress/row.Size -/
noncomputable def row_Size (x0 : List Nd) : Option (Int) := lim fun k => run E k 59 x0
theorem row_Size_lim (x0 : List Nd) : IsLim (fun k => run E k 59 x0) (row_Size x0) := .run _ _
noncomputable def row_Size_l0 (y2 : Int) (y3 : Int) (y7 : List Nd) (y8 : Int) (y9 : Int) : Option (Nat × Int) := lim fun k => lp E 59 0 k k (y2, y3, y7, y8, y9)
theorem row_Size_l0_lim (y2 : Int) (y3 : Int) (y7 : List Nd) (y8 : Int) (y9 : Int) : IsLim (fun k => lp E 59 0 k k (y2, y3, y7, y8, y9)) (row_Size_l0 y2 y3 y7 y8 y9) := .lp _ _ _
/-! redress/row.Arity -/
noncomputable def row_Arity (x0 : Int) : Option (Int) := lim fun k => run E k 60 x0
theorem row_Arity_lim (x0 : Int) : IsLim (fun k => run E k 60 x0) (row_Arity x0) := .run _ _
/-! slices.Clone[[]redress/api.Node,redress/api.Node] -/
noncomputable def slices_Clone__api_Node (x0 : List Nd) : Option (List Nd) := lim fun k => run E k 61 x0
theorem slices_Clone__api_Node_lim (x0 : List Nd) : IsLim (fun k => run E k 61 x0) (slices_Clone__api_Node x0) := .run _ _
/-! slices.Concat[[]redress/api.Node,redress/api.Node] -/
noncomputable def slices_Concat__api_Node (x0 : List (List Nd)) : Option (List Nd) := lim fun k => run E k 62 x0
theorem slices_Concat__api_Node_lim (x0 : List (List Nd)) : IsLim (fun k => run E k 62 x0) (slices_Concat__api_Node x0) := .run _ _
noncomputable def slices_Concat__api_Node_l0 (y0 : List (List Nd)) (y3 : Int) (y9 : List (List Nd)) (y10 : Int) (y11 : Int) : Option (Nat × (List (List Nd) × Int)) := lim fun k => lp E 62 0 k k (y0, y3, y9, y10, y11)
theorem slices_Concat__api_Node_l0_lim (y0 : List (List Nd)) (y3 : Int) (y9 : List (List Nd)) (y10 : Int) (y11 : Int) : IsLim (fun k => lp E 62 0 k k (y0, y3, y9, y10, y11)) (slices_Concat__api_Node_l0 y0 y3 y9 y10 y11) := .lp _ _ _
noncomputable def slices_Concat__api_Node_l2 (y6 : List Nd) (y25 : List (List Nd)) (y26 : Int) (y27 : Int) : Option (Nat × List Nd) := lim fun k => lp E 62 2 k k (y6, y25, y26, y27)
theorem slices_Concat__api_Node_l2_lim (y6 : List Nd) (y25 : List (List Nd)) (y26 : Int) (y27 : Int) : IsLim (fun k => lp E 62 2 k k (y6, y25, y26, y27)) (slices_Concat__api_Node_l2 y6 y25 y26 y27) := .lp _ _ _
/-! redress/sign.Both -/
noncomputable def sign_Both (x0 : Int) (x1 : Int) : Option (Int) := lim fun k => run E k 63 (x0, x1)
theorem sign_Both_lim (x0 : Int) (x1 : Int) : IsLim (fun k => run E k 63 (x0, x1)) (sign_Both x0 x1) := .run _ _
/-! redress/redressref03.Right -/
noncomputable def ref03_Right (x0 : Nd) : Option (Bool) := lim fun k => run E k 64 x0
theorem ref03_Right_lim (x0 : Nd) : IsLim (fun k => run E k 64 x0) (ref03_Right x0) := .run _ _
noncomputable def ref03_Right_l0 (y1 : Nd) (y2 : Bool) (y3 : Int) : Option (Nat × (Nd × Bool)) := lim fun k => lp E 64 0 k k (y1, y2, y3)
theorem ref03_Right_l0_lim (y1 : Nd) (y2 : Bool) (y3 : Int) : IsLim (fun k => lp E 64 0 k k (y1, y2, y3)) (ref03_Right_l0 y1 y2 y3) := .lp _ _ _
/-! redress/redressref04.plain -/
noncomputable def ref04_plain (x0 : List Nd) (x1 : List (List Nd)) : Option (Bool) := lim fun k => run E k 65 (x0, x1)
theorem ref04_plain_lim (x0 : List Nd) (x1 : List (List Nd)) : IsLim (fun k => run E k 65 (x0, x1)) (ref04_plain x0 x1) := .run _ _
/-! redress/redressref04.paired -/
noncomputable def ref04_paired (x0 : List Nd) (x1 : List (List Nd)) : Option (Bool) := lim fun k => run E k 66 (x0, x1)
theorem ref04_paired_lim (x0 : List Nd) (x1 : List (List Nd)) : IsLim (fun k => run E k 66 (x0, x1)) (ref04_paired x0 x1) := .run _ _
/-! redress/redressref04.plainOn -/
noncomputable def ref04_plainOn (x0 : List Nd) (x1 : List (List Nd)) : Option (Bool) := lim fun k => run E k 67 (x0, x1)
theorem ref04_plainOn_lim (x0 : List Nd) (x1 : List (List Nd)) : IsLim (fun k => run E k 67 (x0, x1)) (ref04_plainOn x0 x1) := .run _ _
/-! redress/redressref04.pairedOn -/
noncomputable def ref04_pairedOn (x0 : List Nd) (x1 : List (List Nd)) : Option (Bool) := lim fun k => run E k 68 (x0, x1)
theorem ref04_pairedOn_lim (x0 : List Nd) (x1 : List (List Nd)) : IsLim (fun k => run E k 68 (x0, x1)) (ref04_pairedOn x0 x1) := .run _ _
/-! redress/redressref10.node -/
noncomputable def ref10_node (x0 : Int) (x1 : Int) : Option (Nd) := lim fun k => run E k 69 (x0, x1)
theorem ref10_node_lim (x0 : Int) (x1 : Int) : IsLim (fun k => run E k 69 (x0, x1)) (ref10_node x0 x1) := .run _ _
/-! redress/redressref10.end -/
noncomputable def ref10_end (x0 : Int) (x1 : List Nd) : Option (List Nd) := lim fun k => run E k 70 (x0, x1)
theorem ref10_end_lim (x0 : Int) (x1 : List Nd) : IsLim (fun k => run E k 70 (x0, x1)) (ref10_end x0 x1) := .run _ _
/-! redress/redressref01.Both -/
noncomputable def ref01_Both (x0 : Int) (x1 : Int) : Option (Int) := lim fun k => run E k 71 (x0, x1)
theorem ref01_Both_lim (x0 : Int) (x1 : Int) : IsLim (fun k => run E k 71 (x0, x1)) (ref01_Both x0 x1) := .run _ _
/-! redress/row.Whole$1 -/
noncomputable def row_Whole_1 (x0 : Nd) : Option (Bool) := lim fun k => run E k 72 x0
theorem row_Whole_1_lim (x0 : Nd) : IsLim (fun k => run E k 72 x0) (row_Whole_1 x0) := .run _ _
/-! redress/row.Right -/
noncomputable def row_Right (x0 : Nd) : Option (Bool) := lim fun k => run E k 73 x0
theorem row_Right_lim (x0 : Nd) : IsLim (fun k => run E k 73 x0) (row_Right x0) := .run _ _
/-! slices.ContainsFunc[[]redress/api.Node,redress/api.Node] -/
noncomputable def slices_ContainsFunc__api_Node (x0 : List Nd) (x1 : FnV) : Option (Bool) := lim fun k => run E k 74 (x0, x1)
theorem slices_ContainsFunc__api_Node_lim (x0 : List Nd) (x1 : FnV) : IsLim (fun k => run E k 74 (x0, x1)) (slices_ContainsFunc__api_Node x0 x1) := .run _ _
/-! redress/sort.both -/
noncomputable def sort_both (x0 : Int) (x1 : Int) : Option (Int) := lim fun k => run E k 75 (x0, x1)
theorem sort_both_lim (x0 : Int) (x1 : Int) : IsLim (fun k => run E k 75 (x0, x1)) (sort_both x0 x1) := .run _ _
/-! redress/sort.behind -/
noncomputable def sort_behind (x0 : Int) (x1 : Int) (x2 : Int) : Option (Int) := lim fun k => run E k 76 (x0, x1, x2)
theorem sort_behind_lim (x0 : Int) (x1 : Int) (x2 : Int) : IsLim (fun k => run E k 76 (x0, x1, x2)) (sort_behind x0 x1 x2) := .run _ _
/-! slices.Grow[[]redress/api.Node,redress/api.Node] -/
noncomputable def slices_Grow__api_Node (x0 : Unit) (x1 : Int) : Option (List Nd) := lim fun k => run E k 77 (x0, x1)
theorem slices_Grow__api_Node_lim (x0 : Unit) (x1 : Int) : IsLim (fun k => run E k 77 (x0, x1)) (slices_Grow__api_Node x0 x1) := .run _ _
/-! redress/sign.Is -/
noncomputable def sign_Is (x0 : Int) : Option (Bool) := lim fun k => run E k 78 x0
theorem sign_Is_lim (x0 : Int) : IsLim (fun k => run E k 78 x0) (sign_Is x0) := .run _ _
/-! redress/redressref03.word -/
noncomputable def ref03_word (x0 : ByteArray) : Option (Bool) := lim fun k => run E k 79 x0
theorem ref03_word_lim (x0 : ByteArray) : IsLim (fun k => run E k 79 x0) (ref03_word x0) := .run _ _
/-! redress/redressref01.Is -/
noncomputable def ref01_Is (x0 : Int) : Option (Bool) := lim fun k => run E k 80 x0
theorem ref01_Is_lim (x0 : Int) : IsLim (fun k => run E k 80 x0) (ref01_Is x0) := .run _ _
/-! redress/row.named -/
noncomputable def row_named (x0 : ByteArray) : Option (Bool) := lim fun k => run E k 81 x0
theorem row_named_lim (x0 : ByteArray) : IsLim (fun k => run E k 81 x0) (row_named x0) := .run _ _
/-! slices.IndexFunc[[]redress/api.Node,redress/api.Node] -/
noncomputable def slices_IndexFunc__api_Node (x0 : List Nd) (x1 : FnV) : Option (Int) := lim fun k => run E k 82 (x0, x1)
theorem slices_IndexFunc__api_Node_lim (x0 : List Nd) (x1 : FnV) : IsLim (fun k => run E k 82 (x0, x1)) (slices_IndexFunc__api_Node x0 x1) := .run _ _
noncomputable def slices_IndexFunc__api_Node_l0 (y0 : List Nd) (y1 : FnV) (y4 : Int) (y7 : Int) (y8 : Int) : Option (Nat × Int) := lim fun k => lp E 82 0 k k (y0, y1, y4, y7, y8)
theorem slices_IndexFunc__api_Node_l0_lim (y0 : List Nd) (y1 : FnV) (y4 : Int) (y7 : Int) (y8 : Int) : IsLim (fun k => lp E 82 0 k k (y0, y1, y4, y7, y8)) (slices_IndexFunc__api_Node_l0 y0 y1 y4 y7 y8) := .lp _ _ _
/-! strings.Trim -/
noncomputable def strings_Trim (x0 : ByteArray) (x1 : ByteArray) : Option (ByteArray) := lim fun k => run E k 83 (x0, x1)
theorem strings_Trim_lim (x0 : ByteArray) (x1 : ByteArray) : IsLim (fun k => run E k 83 (x0, x1)) (strings_Trim x0 x1) := .run _ _
/-! strings.trimLeftByte -/
noncomputable def strings_trimLeftByte (x0 : ByteArray) (x1 : Int) : Option (ByteArray) := lim fun k => run E k 84 (x0, x1)
theorem strings_trimLeftByte_lim (x0 : ByteArray) (x1 : Int) : IsLim (fun k => run E k 84 (x0, x1)) (strings_trimLeftByte x0 x1) := .run _ _
noncomputable def strings_trimLeftByte_l0 (y0 : ByteArray) (y1 : Int) : Option (Nat × ByteArray) := lim fun k => lp E 84 0 k k (y0, y1)
theorem strings_trimLeftByte_l0_lim (y0 : ByteArray) (y1 : Int) : IsLim (fun k => lp E 84 0 k k (y0, y1)) (strings_trimLeftByte_l0 y0 y1) := .lp _ _ _
/-! strings.trimRightByte -/
noncomputable def strings_trimRightByte (x0 : ByteArray) (x1 : Int) : Option (ByteArray) := lim fun k => run E k 85 (x0, x1)
theorem strings_trimRightByte_lim (x0 : ByteArray) (x1 : Int) : IsLim (fun k => run E k 85 (x0, x1)) (strings_trimRightByte x0 x1) := .run _ _
noncomputable def strings_trimRightByte_l0 (y0 : ByteArray) (y1 : Int) : Option (Nat × ByteArray) := lim fun k => lp E 85 0 k k (y0, y1)
theorem strings_trimRightByte_l0_lim (y0 : ByteArray) (y1 : Int) : IsLim (fun k => lp E 85 0 k k (y0, y1)) (strings_trimRightByte_l0 y0 y1) := .lp _ _ _
end Go.Proofs.YtlnpacehjfoffaaDoor.Sv
