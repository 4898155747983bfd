/- The tables of the seat's evaluator: types, signatures, functions, shapes of loops. Written by a program (emit3.py). -/

import Derived.Test.YthhefjmdfdckjaaDoorProg
import Derived.Test.YthhefjmdfdckjaaDoorEv6
namespace Go.Proofs.YthhefjmdfdckjaaDoor.Sv
open Go Go.Sv Go.Proofs
set_option linter.unusedVariables false
set_option maxRecDepth 100000
abbrev T8 : Ty := (.pair (.int .i64) (.pair (.int .i64) (.pair .bool (.int .u8))))
abbrev T14 : Ty := (.pair .str (.int .u64))
abbrev T31 : Ty := (.pair (.int .i64) (.pair .str (.int .i64)))
abbrev T71 : Ty := (.pair (.int .u8) (.int .u8))
def tiT : Tree TI := (.node 23 ⟨(.slice 9), 1, 24, (some (.slice 9 .str)), false⟩ (.node 9 ⟨.str, 1, 16, (some .str), false⟩ (.node 5 ⟨(.int .u8), 1, 1, (some (.int .u8)), false⟩ (.node 3 ⟨(.int .i64), 1, 8, (some (.int .i64)), false⟩ (.node 2 ⟨(.int .i64), 1, 8, (some (.int .i64)), false⟩ .leaf .leaf) (.node 4 ⟨.bool, 1, 1, (some .bool), false⟩ .leaf .leaf)) (.node 7 ⟨(.struct [(0, 2), (1, 3), (2, 4), (3, 6)]), 4, 24, (some T8), false⟩ (.node 6 ⟨(.int .u8), 1, 1, (some (.int .u8)), false⟩ .leaf .leaf) (.node 8 ⟨(.struct [(0, 2), (1, 3), (2, 4), (3, 6)]), 4, 24, (some T8), false⟩ .leaf .leaf))) (.node 13 ⟨(.struct [(0, 9), (1, 12)]), 2, 24, (some T14), false⟩ (.node 11 ⟨.str, 1, 16, (some .str), false⟩ (.node 10 ⟨.str, 1, 16, (some .str), false⟩ .leaf .leaf) (.node 12 ⟨(.int .u64), 1, 8, (some (.int .u64)), false⟩ .leaf .leaf)) (.node 21 ⟨(.int .i32), 1, 4, (some (.int .i32)), false⟩ (.node 14 ⟨(.struct [(0, 9), (1, 12)]), 2, 24, (some T14), false⟩ .leaf .leaf) (.node 22 ⟨(.slice 31), 1, 24, (some (.slice 31 T31)), false⟩ .leaf .leaf)))) (.node 71 ⟨(.struct [(0, 5), (1, 5)]), 2, 2, (some T71), false⟩ (.node 46 ⟨(.slice 22), 1, 24, (some (.slice 22 (.slice 31 T31))), false⟩ (.node 31 ⟨(.struct [(0, 3), (1, 9), (2, 3)]), 3, 32, (some T31), true⟩ (.node 30 ⟨(.struct [(0, 3), (1, 9), (2, 3)]), 3, 32, (some T31), false⟩ .leaf .leaf) (.node 32 ⟨(.slice 3), 1, 24, (some (.slice 3 (.int .i64))), false⟩ .leaf .leaf)) (.node 69 ⟨(.int .u64), 1, 8, (some (.int .u64)), false⟩ (.node 55 ⟨(.array 6 9), 6, 96, (some (.pair .str (.pair .str (.pair .str (.pair .str (.pair .str .str)))))), false⟩ .leaf .leaf) (.node 70 ⟨(.struct [(0, 5), (1, 5)]), 2, 2, (some T71), false⟩ .leaf .leaf))) (.node 85 ⟨(.int .u8), 1, 1, (some (.int .u8)), false⟩ (.node 83 ⟨(.int .u32), 1, 4, (some (.int .u32)), false⟩ (.node 72 ⟨(.array 16 71), 32, 32, (some (.pair T71 (.pair T71 (.pair T71 (.pair T71 (.pair T71 (.pair T71 (.pair T71 (.pair T71 (.pair T71 (.pair T71 (.pair T71 (.pair T71 (.pair T71 (.pair T71 (.pair T71 T71)))))))))))))))), false⟩ .leaf .leaf) (.node 84 ⟨(.int .u8), 1, 1, (some (.int .u8)), false⟩ .leaf .leaf)) (.node 89 ⟨(.int .i32), 1, 4, (some (.int .i32)), false⟩ (.node 88 ⟨(.int .i32), 1, 4, (some (.int .i32)), false⟩ .leaf .leaf) .leaf))))
def sigT : Tree Sig := (.node 22 ⟨[.v (.slice 31 T31) [], .v (.slice 31 T31) []], [.v .bool []], false⟩ (.node 12 ⟨[.v (.slice 31 T31) [], .v (.int .i64) []], [.v (.slice 31 T31) []], false⟩ (.node 7 ⟨[.v (.slice 31 T31) []], [.v (.int .i64) []], false⟩ (.node 5 ⟨[], [.v .bool []], false⟩ (.node 4 ⟨[.v (.slice 31 T31) []], [.v .bool []], false⟩ (.node 3 ⟨[.v (.slice 31 T31) [], .v (.slice 9 .str) []], [.v .bool []], false⟩ .leaf .leaf) .leaf) (.node 6 ⟨[.v (.slice 31 T31) [], .v (.slice 9 .str) []], [.v (.slice 31 T31) []], false⟩ .leaf .leaf)) (.node 10 ⟨[.v (.slice 31 T31) [], .v .str []], [.v (.slice 3 (.int .i64)) []], false⟩ (.node 9 ⟨[.v (.slice 31 T31) []], [.v (.int .i64) []], false⟩ (.node 8 ⟨[.v (.slice 31 T31) [], .v (.slice 3 (.int .i64)) []], [.v (.int .i64) []], false⟩ .leaf .leaf) .leaf) (.node 11 ⟨[.v (.slice 31 T31) [], .v (.slice 31 T31) []], [.v .bool []], false⟩ .leaf .leaf))) (.node 17 ⟨[.v (.slice 31 T31) []], [.v (.int .i64) []], false⟩ (.node 15 ⟨[.v T31 []], [.v (.slice 31 T31) []], false⟩ (.node 14 ⟨[.v (.slice 9 .str) [], .v .str []], [.v .bool []], false⟩ (.node 13 ⟨[.v (.slice 31 T31) []], [.v (.slice 31 T31) []], false⟩ .leaf .leaf) .leaf) (.node 16 ⟨[.v (.slice 31 T31) []], [.v .bool []], false⟩ .leaf .leaf)) (.node 20 ⟨[.v (.slice 31 T31) []], [.v (.slice 31 T31) [0]], false⟩ (.node 19 ⟨[.v (.slice 31 T31) [], .v (.int .i64) []], [.v (.int .i64) [], .v (.int .i64) []], false⟩ (.node 18 ⟨[.v (.slice 3 (.int .i64)) [], .v (.int .i64) []], [.v .bool []], false⟩ .leaf .leaf) .leaf) (.node 21 ⟨[.v (.slice 22 (.slice 31 T31)) []], [.v (.slice 31 T31) []], false⟩ .leaf .leaf)))) (.node 32 ⟨[.v (.slice 3 (.int .i64)) [], .v (.int .i64) []], [.v (.int .i64) []], false⟩ (.node 27 ⟨[.v (.slice 31 T31) []], [.v (.int .i64) []], false⟩ (.node 25 ⟨[.v T31 []], [.v .bool []], false⟩ (.node 24 ⟨[.v T31 []], [.v .bool []], false⟩ (.node 23 ⟨[.v (.slice 9 .str) [], .v .str []], [.v (.int .i64) []], false⟩ .leaf .leaf) .leaf) (.node 26 ⟨[.v (.slice 31 T31) [], .f], [.v .bool []], false⟩ .leaf .leaf)) (.node 30 ⟨[.v (.int .i64) [], .v (.int .i64) [], .v (.int .i64) []], [.v (.int .i64) []], false⟩ (.node 29 ⟨[.v (.int .i64) [], .v (.int .i64) []], [.v (.int .i64) []], false⟩ (.node 28 ⟨[.v (.slice 31 T31) []], [.v (.slice 22 (.slice 31 T31)) [0]], false⟩ .leaf .leaf) .leaf) (.node 31 ⟨[.v (.int .i64) []], [.v (.int .i64) []], false⟩ .leaf .leaf))) (.node 37 ⟨[.v (.slice 31 T31) [], .f], [.v (.int .i64) []], false⟩ (.node 35 ⟨[.v .str []], [.v .bool []], false⟩ (.node 34 ⟨[.n 31 T31, .v (.int .i64) []], [.v (.slice 31 T31) [0]], false⟩ (.node 33 ⟨[.v (.int .i64) []], [.v (.int .i64) []], false⟩ .leaf .leaf) .leaf) (.node 36 ⟨[.v (.int .i64) []], [.v (.int .i64) []], false⟩ .leaf .leaf)) (.node 39 ⟨[.v .str [], .v (.int .u8) []], [.v .str []], false⟩ (.node 38 ⟨[.v .str [], .v .str []], [.v .str []], false⟩ .leaf .leaf) (.node 40 ⟨[.v .str [], .v (.int .u8) []], [.v .str []], false⟩ .leaf .leaf)))))
abbrev sg (f : Nat) : Sig := (sigT.find f).getD ⟨[], [], false⟩
noncomputable def fnT : Tree Func := (.node 22 Tryd.f22 (.node 12 Tryd.f12 (.node 7 Tryd.f7 (.node 5 Tryd.f5 (.node 4 Tryd.f4 (.node 3 Tryd.f3 .leaf .leaf) .leaf) (.node 6 Tryd.f6 .leaf .leaf)) (.node 10 Tryd.f10 (.node 9 Tryd.f9 (.node 8 Tryd.f8 .leaf .leaf) .leaf) (.node 11 Tryd.f11 .leaf .leaf))) (.node 17 Tryd.f17 (.node 15 Tryd.f15 (.node 14 Tryd.f14 (.node 13 Tryd.f13 .leaf .leaf) .leaf) (.node 16 Tryd.f16 .leaf .leaf)) (.node 19 Tryd.f19 (.node 18 Tryd.f18 .leaf .leaf) (.node 21 Tryd.f21 .leaf .leaf)))) (.node 31 Tryd.f31 (.node 27 Tryd.f27 (.node 25 Tryd.f25 (.node 24 Tryd.f24 (.node 23 Tryd.f23 .leaf .leaf) .leaf) (.node 26 Tryd.f26 .leaf .leaf)) (.node 29 Tryd.f29 (.node 28 Tryd.f28 .leaf .leaf) (.node 30 Tryd.f30 .leaf .leaf))) (.node 36 Tryd.f36 (.node 34 Tryd.f34 (.node 33 Tryd.f33 (.node 32 Tryd.f32 .leaf .leaf) .leaf) (.node 35 Tryd.f35 .leaf .leaf)) (.node 39 Tryd.f39 (.node 37 Tryd.f37 .leaf .leaf) (.node 40 Tryd.f40 .leaf .leaf)))))
def shapeT : Tree (Tree (Shape × Shape)) := (.node 22 (.node 0 ([(0, .v (.slice 31 T31) []), (1, .v (.slice 31 T31) []), (4, .v .bool []), (12, .v (.int .i64) []), (13, .v (.int .i64) [])], [(4, .v .bool [])]) .leaf .leaf) (.node 13 (.node 1000 ([(0, .v (.slice 31 T31) []), (2, .v (.slice 31 T31) [0]), (3, .v (.slice 31 T31) [0]), (4, .v (.int .i64) [])], [(2, .v (.slice 31 T31) [0])]) .leaf .leaf) (.node 10 (.node 0 ([(1, .v .str []), (5, .v (.slice 3 (.int .i64)) [0]), (8, .v (.slice 31 T31) []), (9, .v (.int .i64) []), (10, .v (.int .i64) [])], [(5, .v (.slice 3 (.int .i64)) [0])]) .leaf .leaf) (.node 8 (.node 0 ([(1, .v (.slice 3 (.int .i64)) []), (5, .v (.int .i64) []), (8, .v (.slice 31 T31) []), (9, .v (.int .i64) []), (10, .v (.int .i64) [])], [(5, .v (.int .i64) [])]) .leaf .leaf) (.node 6 (.node 1000 ([(0, .v (.slice 31 T31) []), (1, .v (.slice 9 .str) []), (4, .v (.slice 31 T31) [0]), (5, .v (.slice 31 T31) [0]), (6, .v (.int .i64) [])], [(4, .v (.slice 31 T31) [0])]) .leaf .leaf) .leaf .leaf) .leaf) (.node 11 (.node 0 ([(0, .v (.slice 31 T31) []), (1, .v (.slice 31 T31) []), (4, .v .bool []), (5, .v (.int .i64) [])], [(4, .v .bool [])]) .leaf .leaf) .leaf .leaf)) (.node 19 (.node 0 ([(0, .v (.slice 31 T31) []), (1, .v (.int .i64) []), (4, .v (.int .i64) []), (5, .v (.int .i64) []), (6, .v (.int .i64) []), (7, .v (.int .i64) []), (8, .v (.int .i64) [])], [(4, .v (.int .i64) []), (5, .v (.int .i64) []), (6, .v (.int .i64) []), (7, .v (.int .i64) [])]) .leaf .leaf) (.node 17 (.node 0 ([(0, .v (.slice 31 T31) []), (2, .v (.int .i64) []), (3, .v (.slice 3 (.int .i64)) [0]), (8, .v (.slice 22 (.slice 31 T31)) [0]), (9, .v (.int .i64) []), (10, .v (.int .i64) [])], [(0, .v (.slice 31 T31) []), (2, .v (.int .i64) []), (3, .v (.slice 3 (.int .i64)) [0])]) .leaf .leaf) .leaf .leaf) (.node 21 (.node 2 ([(6, .v (.slice 31 T31) [0]), (25, .v (.slice 22 (.slice 31 T31)) []), (26, .v (.int .i64) []), (27, .v (.int .i64) [])], [(6, .v (.slice 31 T31) [0])]) (.node 0 ([(0, .v (.slice 22 (.slice 31 T31)) []), (3, .v (.int .i64) []), (9, .v (.slice 22 (.slice 31 T31)) []), (10, .v (.int .i64) []), (11, .v (.int .i64) [])], [(0, .v (.slice 22 (.slice 31 T31)) []), (3, .v (.int .i64) [])]) .leaf .leaf) .leaf) .leaf .leaf))) (.node 32 (.node 0 ([(0, .v (.slice 3 (.int .i64)) []), (1, .v (.int .i64) []), (4, .v (.int .i64) []), (7, .v (.int .i64) []), (8, .v (.int .i64) [])], [(4, .v (.int .i64) [])]) .leaf .leaf) (.node 27 (.node 0 ([(2, .v (.int .i64) []), (3, .v (.int .i64) []), (7, .v (.slice 31 T31) []), (8, .v (.int .i64) []), (9, .v (.int .i64) [])], [(2, .v (.int .i64) [])]) .leaf .leaf) (.node 23 (.node 0 ([(0, .v (.slice 9 .str) []), (1, .v .str []), (4, .v (.int .i64) []), (7, .v (.int .i64) []), (8, .v (.int .i64) [])], [(4, .v (.int .i64) [])]) .leaf .leaf) .leaf .leaf) (.node 28 (.node 0 ([(0, .v (.slice 31 T31) []), (3, .v (.slice 22 (.slice 31 T31)) [0]), (4, .v (.int .i64) []), (13, .v (.int .i64) []), (14, .v (.int .i64) [])], [(3, .v (.slice 22 (.slice 31 T31)) [0])]) .leaf .leaf) .leaf .leaf)) (.node 39 (.node 0 ([(0, .v .str []), (1, .v (.int .u8) [])], [(0, .v .str [])]) .leaf .leaf) (.node 37 (.node 0 ([(0, .v (.slice 31 T31) []), (1, .f), (4, .v (.int .i64) []), (7, .v (.int .i64) []), (8, .v (.int .i64) [])], [(4, .v (.int .i64) [])]) .leaf .leaf) .leaf .leaf) (.node 40 (.node 0 ([(0, .v .str []), (1, .v (.int .u8) [])], [(0, .v .str [])]) .leaf .leaf) .leaf .leaf))))
def slices_Clone__api_Node_spec (x0 : List Nd) : Option (List Nd) := bif roomOk x0.length 32 then some x0 else none
def frn20 : Tup (sg 20).args → Option (Tup (sg 20).res) := fun x0 => slices_Clone__api_Node_spec x0
def strings_Trim_spec (x0 : ByteArray) (x1 : ByteArray) : Option (ByteArray) := trimSpec x0 x1
def frn38 : Tup (sg 38).args → Option (Tup (sg 38).res) := fun ⟨x0, x1⟩ => strings_Trim_spec x0 x1
def frT (f : Nat) : Option (Tup (sg f).args → Option (Tup (sg f).res)) := if h : f = 38 then some (by rw [h]; exact frn38) else if h : f = 20 then some (by rw [h]; exact frn20) else none
def row_words : List ByteArray := [⟨#[115, 107, 105, 112]⟩, ⟨#[116, 104, 114, 111, 119]⟩, ⟨#[121, 105, 101, 108, 100]⟩, ⟨#[115, 107, 105, 112, 112]⟩, ⟨#[116, 104, 114, 111, 119, 119]⟩, ⟨#[121, 105, 101, 108, 100, 100]⟩]
def globT (g : Nat) : Option (TypeId × Ty × Nat) := bif Nat.beq g 0 then some (9, .str, 6) else none
def globV : (g : Nat) → (t : Ty) → List t.den := fun _ t => match t with | .str => row_words | _ => []
noncomputable def E : Env := { fn := fnT.find, sig := sg, ti := tiT.find, shape := fun f b => (shapeT.find f).bind (·.find b), glob := globT, globV := globV, foreign := frT }
abbrev law08_RefuseSorts_id : Nat := 3
abbrev law08_few_id : Nat := 4
abbrev law08_alive_id : Nat := 5
abbrev refuse_Rewrite_id : Nat := 6
abbrev sort_Of_id : Nat := 7
abbrev row_Count_id : Nat := 8
abbrev ref03_Depth_id : Nat := 9
abbrev refuse_Places_id : Nat := 10
abbrev ref03_Same_id : Nat := 11
abbrev refuse_Mark_id : Nat := 12
abbrev refuse_Strip_id : Nat := 13
abbrev slices_Contains__string_id : Nat := 14
abbrev refuse_refusable_id : Nat := 15
abbrev row_Whole_id : Nat := 16
abbrev sort_sort_id : Nat := 17
abbrev slices_Contains__int_id : Nat := 18
abbrev ref03_Walk_id : Nat := 19
abbrev slices_Clone__api_Node_id : Nat := 20
abbrev slices_Concat__api_Node_id : Nat := 21
abbrev slices_Equal__api_Node_id : Nat := 22
abbrev slices_Index__string_id : Nat := 23
abbrev row_Whole_1_id : Nat := 24
abbrev row_Right_id : Nat := 25
abbrev slices_ContainsFunc__api_Node_id : Nat := 26
abbrev row_Size_id : Nat := 27
abbrev row_Kids_id : Nat := 28
abbrev sort_both_id : Nat := 29
abbrev sort_behind_id : Nat := 30
abbrev sort_on_id : Nat := 31
abbrev slices_Index__int_id : Nat := 32
abbrev ref03_Arity_id : Nat := 33
abbrev slices_Grow__api_Node_id : Nat := 34
abbrev row_named_id : Nat := 35
abbrev row_Arity_id : Nat := 36
abbrev slices_IndexFunc__api_Node_id : Nat := 37
abbrev strings_Trim_id : Nat := 38
abbrev strings_trimLeftByte_id : Nat := 39
abbrev strings_trimRightByte_id : Nat := 40
end Go.Proofs.YthhefjmdfdckjaaDoor.Sv
