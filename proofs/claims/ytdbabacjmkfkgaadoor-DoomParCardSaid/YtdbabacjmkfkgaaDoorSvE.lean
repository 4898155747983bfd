/- The tables of the seat's evaluator: types, signatures, functions, shapes of loops. Written by a program (emit3.py). -/

import Derived.Test.YtdbabacjmkfkgaaDoorProg
import Derived.Test.YtdbabacjmkfkgaaDoorEv6
namespace Go.Proofs.YtdbabacjmkfkgaaDoor.Sv
open Go Go.Sv Go.Proofs
set_option linter.unusedVariables false
set_option maxRecDepth 100000
abbrev T8 : Ty := (.pair (.int .i64) (.pair (.int .i64) (.pair .bool (.int .u8))))
abbrev T14 : Ty := (.pair .str (.int .u64))
abbrev T29 : Ty := (.pair (.int .i64) (.pair .str (.int .i64)))
abbrev T79 : Ty := (.pair (.int .i64) (.int .i64))
abbrev T104 : Ty := (.pair (.int .u8) (.int .u8))
def tiT : Tree TI := (.node 28 ⟨(.struct [(0, 3), (1, 9), (2, 3)]), 3, 32, (some T29), false⟩ (.node 10 ⟨.str, 1, 16, (some .str), false⟩ (.node 6 ⟨(.int .u8), 1, 1, (some (.int .u8)), false⟩ (.node 4 ⟨.bool, 1, 1, (some .bool), false⟩ (.node 3 ⟨(.int .i64), 1, 8, (some (.int .i64)), false⟩ (.node 2 ⟨(.int .i64), 1, 8, (some (.int .i64)), false⟩ .leaf .leaf) .leaf) (.node 5 ⟨(.int .u8), 1, 1, (some (.int .u8)), false⟩ .leaf .leaf)) (.node 8 ⟨(.struct [(0, 2), (1, 3), (2, 4), (3, 6)]), 4, 24, (some T8), false⟩ (.node 7 ⟨(.struct [(0, 2), (1, 3), (2, 4), (3, 6)]), 4, 24, (some T8), false⟩ .leaf .leaf) (.node 9 ⟨.str, 1, 16, (some .str), false⟩ .leaf .leaf))) (.node 14 ⟨(.struct [(0, 9), (1, 12)]), 2, 24, (some T14), false⟩ (.node 12 ⟨(.int .u64), 1, 8, (some (.int .u64)), false⟩ (.node 11 ⟨.str, 1, 16, (some .str), false⟩ .leaf .leaf) (.node 13 ⟨(.struct [(0, 9), (1, 12)]), 2, 24, (some T14), false⟩ .leaf .leaf)) (.node 22 ⟨(.slice 29), 1, 24, (some (.slice 29 T29)), false⟩ (.node 21 ⟨(.int .i32), 1, 4, (some (.int .i32)), false⟩ .leaf .leaf) (.node 26 ⟨(.slice 3), 1, 24, (some (.slice 3 (.int .i64))), false⟩ .leaf .leaf)))) (.node 103 ⟨(.struct [(0, 5), (1, 5)]), 2, 2, (some T104), false⟩ (.node 79 ⟨(.struct [(0, 3), (1, 3)]), 2, 16, (some T79), false⟩ (.node 75 ⟨(.slice 79), 1, 24, (some (.slice 79 T79)), false⟩ (.node 31 ⟨(.slice 22), 1, 24, (some (.slice 22 (.slice 29 T29))), false⟩ (.node 29 ⟨(.struct [(0, 3), (1, 9), (2, 3)]), 3, 32, (some T29), true⟩ .leaf .leaf) .leaf) (.node 78 ⟨(.struct [(0, 3), (1, 3)]), 2, 16, (some T79), false⟩ .leaf .leaf)) (.node 87 ⟨(.array 6 9), 6, 96, (some (.pair .str (.pair .str (.pair .str (.pair .str (.pair .str .str)))))), false⟩ (.node 86 ⟨(.slice 9), 1, 24, (some (.slice 9 .str)), false⟩ .leaf .leaf) (.node 102 ⟨(.int .u64), 1, 8, (some (.int .u64)), false⟩ .leaf .leaf))) (.node 117 ⟨(.int .u8), 1, 1, (some (.int .u8)), false⟩ (.node 105 ⟨(.array 16 104), 32, 32, (some (.pair T104 (.pair T104 (.pair T104 (.pair T104 (.pair T104 (.pair T104 (.pair T104 (.pair T104 (.pair T104 (.pair T104 (.pair T104 (.pair T104 (.pair T104 (.pair T104 (.pair T104 T104)))))))))))))))), false⟩ (.node 104 ⟨(.struct [(0, 5), (1, 5)]), 2, 2, (some T104), false⟩ .leaf .leaf) (.node 116 ⟨(.int .u32), 1, 4, (some (.int .u32)), false⟩ .leaf .leaf)) (.node 121 ⟨(.int .i32), 1, 4, (some (.int .i32)), false⟩ (.node 118 ⟨(.int .u8), 1, 1, (some (.int .u8)), false⟩ .leaf .leaf) (.node 122 ⟨(.int .i32), 1, 4, (some (.int .i32)), false⟩ .leaf .leaf)))))
def sigT : Tree Sig := (.node 38 ⟨[.v T29 [], .v (.slice 29 T29) [], .v (.slice 29 T29) [], .v (.int .i64) []], [.v (.slice 29 T29) []], false⟩ (.node 20 ⟨[.v (.slice 29 T29) []], [.v (.slice 29 T29) []], false⟩ (.node 11 ⟨[.v (.slice 29 T29) [], .v (.int .i64) []], [.v (.slice 22 (.slice 29 T29)) []], false⟩ (.node 7 ⟨[], [.v .bool []], false⟩ (.node 5 ⟨[.v (.slice 29 T29) [], .v (.slice 29 T29) []], [.v .bool []], false⟩ (.node 4 ⟨[.v (.slice 29 T29) []], [.v .bool []], false⟩ (.node 3 ⟨[.v (.slice 29 T29) []], [.v .bool []], false⟩ .leaf .leaf) .leaf) (.node 6 ⟨[.v (.slice 29 T29) []], [.v .bool []], false⟩ .leaf .leaf)) (.node 9 ⟨[.v (.slice 29 T29) []], [.v (.slice 3 (.int .i64)) []], false⟩ (.node 8 ⟨[.v (.slice 29 T29) []], [.v (.slice 29 T29) []], false⟩ .leaf .leaf) (.node 10 ⟨[.v (.slice 29 T29) [], .v (.int .i64) []], [.v .bool []], false⟩ .leaf .leaf))) (.node 16 ⟨[.v (.slice 29 T29) []], [.v (.int .i64) []], false⟩ (.node 14 ⟨[.v (.slice 29 T29) []], [.v (.int .i64) []], false⟩ (.node 13 ⟨[.v (.slice 29 T29) [], .v .bool []], [.v .bool []], false⟩ (.node 12 ⟨[.v T29 [], .v (.slice 29 T29) []], [.v (.slice 29 T29) [0]], false⟩ .leaf .leaf) .leaf) (.node 15 ⟨[.v T29 [], .v (.slice 29 T29) [], .v (.slice 29 T29) []], [.v (.slice 29 T29) []], false⟩ .leaf .leaf)) (.node 18 ⟨[.v (.slice 29 T29) []], [.v .bool []], false⟩ (.node 17 ⟨[.v (.slice 3 (.int .i64)) [], .v (.slice 3 (.int .i64)) []], [.v .bool []], false⟩ .leaf .leaf) (.node 19 ⟨[.v (.slice 29 T29) [], .v (.slice 29 T29) []], [.v .bool []], false⟩ .leaf .leaf)))) (.node 29 ⟨[.v (.slice 29 T29) [], .v (.int .i64) []], [.v (.slice 22 (.slice 29 T29)) [], .v .bool []], false⟩ (.node 25 ⟨[.v (.int .i64) [], .p (.slice 29 T29), .p (.int .i64)], [.v .bool []], false⟩ (.node 23 ⟨[.v (.slice 3 (.int .i64)) [], .f], [.v .bool []], false⟩ (.node 22 ⟨[.v (.int .i64) [], .p (.slice 29 T29)], [.v .bool []], false⟩ (.node 21 ⟨[.v (.slice 29 T29) []], [.v .bool []], false⟩ .leaf .leaf) .leaf) (.node 24 ⟨[.v (.slice 29 T29) [], .v (.int .i64) []], [.v (.slice 3 (.int .i64)) [0]], false⟩ .leaf .leaf)) (.node 27 ⟨[.v T29 []], [.v (.int .i64) []], false⟩ (.node 26 ⟨[.v (.slice 29 T29) [], .v (.int .i64) [], .v (.int .i64) []], [.v (.int .i64) []], false⟩ .leaf .leaf) (.node 28 ⟨[.v (.slice 29 T29) [], .v (.slice 3 (.int .i64)) []], [.v (.int .i64) []], false⟩ .leaf .leaf))) (.node 34 ⟨[.v (.slice 29 T29) [], .v (.int .i64) []], [.v (.int .i64) [], .v (.int .i64) []], false⟩ (.node 32 ⟨[.v (.slice 29 T29) []], [.v .bool []], false⟩ (.node 31 ⟨[.v (.int .i64) []], [.v (.int .i64) []], false⟩ (.node 30 ⟨[.v (.slice 22 (.slice 29 T29)) [], .f], [.v .bool []], false⟩ .leaf .leaf) .leaf) (.node 33 ⟨[.v (.slice 29 T29) []], [.v (.int .i64) []], false⟩ .leaf .leaf)) (.node 36 ⟨[.v (.slice 29 T29) []], [.v (.slice 22 (.slice 29 T29)) [0]], false⟩ (.node 35 ⟨[.v (.slice 29 T29) []], [.v .bool []], false⟩ .leaf .leaf) (.node 37 ⟨[.v (.int .i64) []], [.v (.slice 29 T29) []], false⟩ .leaf .leaf))))) (.node 57 ⟨[.v (.int .i64) []], [.v (.int .i64) []], false⟩ (.node 48 ⟨[.v (.slice 3 (.int .i64)) [], .v (.int .i64) []], [.v .bool []], false⟩ (.node 43 ⟨[.v T29 [], .v (.slice 29 T29) [], .v (.slice 29 T29) []], [.v (.slice 29 T29) []], false⟩ (.node 41 ⟨[.v T29 [], .v (.slice 22 (.slice 29 T29)) []], [.v (.slice 29 T29) []], false⟩ (.node 40 ⟨[.v (.slice 29 T29) []], [.v (.int .i64) [], .v .bool []], false⟩ (.node 39 ⟨[.v (.slice 29 T29) [], .v (.slice 29 T29) []], [.v (.slice 29 T29) []], false⟩ .leaf .leaf) .leaf) (.node 42 ⟨[.v (.int .i64) [], .v (.slice 29 T29) []], [.v (.slice 29 T29) []], false⟩ .leaf .leaf)) (.node 45 ⟨[.v (.slice 29 T29) [], .v (.slice 29 T29) []], [.v .bool []], false⟩ (.node 44 ⟨[.v T29 [], .v (.slice 29 T29) []], [.v (.slice 29 T29) []], false⟩ .leaf .leaf) (.node 46 ⟨[.v (.slice 3 (.int .i64)) [], .f], [.v (.int .i64) []], false⟩ .leaf .leaf))) (.node 53 ⟨[.v (.slice 29 T29) [], .f], [.v .bool []], false⟩ (.node 51 ⟨[.v T29 []], [.v .bool []], false⟩ (.node 50 ⟨[.v (.slice 22 (.slice 29 T29)) [], .f], [.v (.int .i64) []], false⟩ (.node 49 ⟨[], [], true⟩ .leaf .leaf) .leaf) (.node 52 ⟨[.v T29 []], [.v .bool []], false⟩ .leaf .leaf)) (.node 55 ⟨[.v (.int .i64) [], .v (.int .i64) []], [.v (.int .i64) []], false⟩ (.node 54 ⟨[.v (.slice 29 T29) []], [.v (.int .i64) []], false⟩ .leaf .leaf) (.node 56 ⟨[.v (.int .i64) [], .v (.int .i64) [], .v (.int .i64) []], [.v (.int .i64) []], false⟩ .leaf .leaf)))) (.node 67 ⟨[.v (.slice 29 T29) [], .f], [.v (.int .i64) []], false⟩ (.node 62 ⟨[.v (.slice 29 T29) [], .v (.slice 29 T29) []], [.v .bool []], false⟩ (.node 60 ⟨[.v (.slice 22 (.slice 29 T29)) []], [.v (.slice 29 T29) [0]], false⟩ (.node 59 ⟨[.v (.slice 29 T29) []], [.v (.slice 29 T29) [0]], false⟩ (.node 58 ⟨[.v (.int .i64) []], [.v (.int .i64) []], false⟩ .leaf .leaf) .leaf) (.node 61 ⟨[.v (.int .i64) [], .v (.int .i64) []], [.v (.int .i64) []], false⟩ .leaf .leaf)) (.node 65 ⟨[.v (.slice 3 (.int .i64)) [], .v (.int .i64) []], [.v (.int .i64) []], false⟩ (.node 64 ⟨[.v (.slice 29 T29) []], [.v .bool []], false⟩ .leaf .leaf) (.node 66 ⟨[.v .str []], [.v .bool []], false⟩ .leaf .leaf))) (.node 71 ⟨[.v (.slice 9 .str) [], .v .str []], [.v .bool []], false⟩ (.node 69 ⟨[.v (.int .i64) []], [.v .bool []], false⟩ (.node 68 ⟨[.n 29 T29, .v (.int .i64) []], [.v (.slice 29 T29) [0]], false⟩ .leaf .leaf) (.node 70 ⟨[.v .str [], .v .str []], [.v .str []], false⟩ .leaf .leaf)) (.node 73 ⟨[.v .str [], .v (.int .u8) []], [.v .str []], false⟩ (.node 72 ⟨[.v .str [], .v (.int .u8) []], [.v .str []], false⟩ .leaf .leaf) (.node 79 ⟨[.v (.slice 9 .str) [], .v .str []], [.v (.int .i64) []], false⟩ .leaf .leaf))))))
abbrev sg (f : Nat) : Sig := (sigT.find f).getD ⟨[], [], false⟩
noncomputable def fnT : Tree Func := (.node 37 Tryd.f37 (.node 19 Tryd.f19 (.node 11 Tryd.f11 (.node 7 Tryd.f7 (.node 5 Tryd.f5 (.node 4 Tryd.f4 (.node 3 Tryd.f3 .leaf .leaf) .leaf) (.node 6 Tryd.f6 .leaf .leaf)) (.node 9 Tryd.f9 (.node 8 Tryd.f8 .leaf .leaf) (.node 10 Tryd.f10 .leaf .leaf))) (.node 15 Tryd.f15 (.node 13 Tryd.f13 (.node 12 Tryd.f12 .leaf .leaf) (.node 14 Tryd.f14 .leaf .leaf)) (.node 17 Tryd.f17 (.node 16 Tryd.f16 .leaf .leaf) (.node 18 Tryd.f18 .leaf .leaf)))) (.node 29 Tryd.f29 (.node 25 Tryd.f25 (.node 22 Tryd.f22 (.node 21 Tryd.f21 (.node 20 Tryd.f20 .leaf .leaf) .leaf) (.node 23 Tryd.f23 .leaf .leaf)) (.node 27 Tryd.f27 (.node 26 Tryd.f26 .leaf .leaf) (.node 28 Tryd.f28 .leaf .leaf))) (.node 33 Tryd.f33 (.node 31 Tryd.f31 (.node 30 Tryd.f30 .leaf .leaf) (.node 32 Tryd.f32 .leaf .leaf)) (.node 35 Tryd.f35 (.node 34 Tryd.f34 .leaf .leaf) (.node 36 Tryd.f36 .leaf .leaf))))) (.node 56 Tryd.f56 (.node 46 Tryd.f46 (.node 42 Tryd.f42 (.node 40 Tryd.f40 (.node 39 Tryd.f39 (.node 38 Tryd.f38 .leaf .leaf) .leaf) (.node 41 Tryd.f41 .leaf .leaf)) (.node 44 Tryd.f44 (.node 43 Tryd.f43 .leaf .leaf) (.node 45 Tryd.f45 .leaf .leaf))) (.node 52 Tryd.f52 (.node 50 Tryd.f50 (.node 48 Tryd.f48 .leaf .leaf) (.node 51 Tryd.f51 .leaf .leaf)) (.node 54 Tryd.f54 (.node 53 Tryd.f53 .leaf .leaf) (.node 55 Tryd.f55 .leaf .leaf)))) (.node 66 Tryd.f66 (.node 61 Tryd.f61 (.node 58 Tryd.f58 (.node 57 Tryd.f57 .leaf .leaf) (.node 60 Tryd.f60 .leaf .leaf)) (.node 64 Tryd.f64 (.node 62 Tryd.f62 .leaf .leaf) (.node 65 Tryd.f65 .leaf .leaf))) (.node 71 Tryd.f71 (.node 68 Tryd.f68 (.node 67 Tryd.f67 .leaf .leaf) (.node 69 Tryd.f69 .leaf .leaf)) (.node 73 Tryd.f73 (.node 72 Tryd.f72 .leaf .leaf) (.node 79 Tryd.f79 .leaf .leaf))))))
def shapeT : Tree (Tree (Shape × Shape)) := (.node 36 (.node 0 ([(0, .v (.slice 29 T29) []), (3, .v (.slice 22 (.slice 29 T29)) [0]), (4, .v (.int .i64) []), (13, .v (.int .i64) []), (14, .v (.int .i64) [])], [(3, .v (.slice 22 (.slice 29 T29)) [0])]) .leaf .leaf) (.node 19 (.node 0 ([(0, .v (.slice 29 T29) []), (1, .v (.slice 29 T29) []), (4, .v .bool []), (5, .v (.int .i64) [])], [(4, .v .bool [])]) .leaf .leaf) (.node 5 (.node 2 ([(4, .v .bool []), (5, .v (.slice 29 T29) []), (8, .v (.slice 29 T29) []), (9, .v (.slice 3 (.int .i64)) []), (79, .v (.slice 3 (.int .i64)) []), (80, .v (.int .i64) []), (81, .v (.int .i64) [])], [(4, .v .bool []), (5, .v (.slice 29 T29) []), (9, .v (.slice 3 (.int .i64)) [])]) (.node 0 ([(1, .v (.slice 29 T29) []), (4, .v .bool []), (5, .v (.slice 29 T29) []), (41, .v (.slice 29 T29) []), (42, .v (.int .i64) []), (43, .v (.int .i64) [])], [(1, .v (.slice 29 T29) []), (4, .v .bool []), (5, .v (.slice 29 T29) [])]) .leaf .leaf) .leaf) (.node 4 (.node 2 ([(2, .v .bool []), (3, .v (.slice 29 T29) []), (44, .v (.slice 3 (.int .i64)) []), (45, .v (.int .i64) []), (46, .v (.int .i64) [])], [(2, .v .bool []), (3, .v (.slice 29 T29) [])]) (.node 0 ([(2, .v .bool []), (3, .v (.slice 29 T29) []), (4, .v (.int .i64) []), (18, .v (.slice 29 T29) []), (19, .v (.int .i64) []), (20, .v (.int .i64) [])], [(2, .v .bool []), (3, .v (.slice 29 T29) []), (4, .v (.int .i64) [])]) .leaf .leaf) (.node 4 ([(2, .v .bool []), (9, .v (.slice 29 T29) []), (66, .v (.slice 3 (.int .i64)) []), (67, .v (.int .i64) []), (68, .v (.int .i64) [])], [(2, .v .bool [])]) .leaf .leaf)) (.node 3 (.node 0 ([(3, .v (.slice 29 T29) []), (4, .v .bool []), (5, .v (.int .i64) [])], [(3, .v (.slice 29 T29) []), (4, .v .bool [])]) .leaf .leaf) .leaf .leaf) .leaf) (.node 17 (.node 0 ([(0, .v (.slice 3 (.int .i64)) []), (1, .v (.slice 3 (.int .i64)) []), (4, .v .bool []), (5, .v (.int .i64) [])], [(4, .v .bool [])]) .leaf .leaf) (.node 9 (.node 0 ([(1, .p (.slice 29 T29)), (3, .f), (4, .v (.slice 3 (.int .i64)) [0]), (11, .v (.int .i64) []), (12, .v (.int .i64) [])], [(4, .v (.slice 3 (.int .i64)) [0])]) .leaf .leaf) .leaf .leaf) .leaf)) (.node 29 (.node 0 ([(0, .v (.slice 29 T29) []), (1, .v (.int .i64) []), (4, .v (.slice 22 (.slice 29 T29)) [0]), (5, .v .bool []), (19, .v (.slice 3 (.int .i64)) [0]), (20, .v (.int .i64) []), (21, .v (.int .i64) [])], [(4, .v (.slice 22 (.slice 29 T29)) [0]), (5, .v .bool [])]) .leaf .leaf) (.node 28 (.node 0 ([(1, .v (.slice 3 (.int .i64)) []), (5, .v (.int .i64) []), (8, .v (.slice 29 T29) []), (9, .v (.int .i64) []), (10, .v (.int .i64) [])], [(5, .v (.int .i64) [])]) .leaf .leaf) (.node 26 (.node 0 ([(2, .v (.int .i64) []), (6, .v (.int .i64) []), (16, .v (.slice 22 (.slice 29 T29)) [0]), (17, .v (.int .i64) []), (18, .v (.int .i64) [])], [(6, .v (.int .i64) [])]) .leaf .leaf) .leaf .leaf) .leaf) (.node 34 (.node 0 ([(0, .v (.slice 29 T29) []), (1, .v (.int .i64) []), (4, .v (.int .i64) []), (5, .v (.int .i64) []), (6, .v (.int .i64) []), (7, .v (.int .i64) []), (8, .v (.int .i64) [])], [(4, .v (.int .i64) []), (5, .v (.int .i64) []), (6, .v (.int .i64) []), (7, .v (.int .i64) [])]) .leaf .leaf) (.node 33 (.node 0 ([(0, .v (.slice 29 T29) []), (2, .v (.int .i64) []), (3, .v (.slice 3 (.int .i64)) [0]), (8, .v (.slice 22 (.slice 29 T29)) [0]), (9, .v (.int .i64) []), (10, .v (.int .i64) [])], [(0, .v (.slice 29 T29) []), (2, .v (.int .i64) []), (3, .v (.slice 3 (.int .i64)) [0])]) .leaf .leaf) .leaf .leaf) .leaf))) (.node 65 (.node 0 ([(0, .v (.slice 3 (.int .i64)) []), (1, .v (.int .i64) []), (4, .v (.int .i64) []), (7, .v (.int .i64) []), (8, .v (.int .i64) [])], [(4, .v (.int .i64) [])]) .leaf .leaf) (.node 54 (.node 0 ([(2, .v (.int .i64) []), (3, .v (.int .i64) []), (7, .v (.slice 29 T29) []), (8, .v (.int .i64) []), (9, .v (.int .i64) [])], [(2, .v (.int .i64) [])]) .leaf .leaf) (.node 50 (.node 0 ([(0, .v (.slice 22 (.slice 29 T29)) []), (1, .f), (4, .v (.int .i64) []), (7, .v (.int .i64) []), (8, .v (.int .i64) [])], [(4, .v (.int .i64) [])]) .leaf .leaf) (.node 46 (.node 0 ([(0, .v (.slice 3 (.int .i64)) []), (1, .f), (4, .v (.int .i64) []), (7, .v (.int .i64) []), (8, .v (.int .i64) [])], [(4, .v (.int .i64) [])]) .leaf .leaf) .leaf .leaf) .leaf) (.node 62 (.node 0 ([(0, .v (.slice 29 T29) []), (1, .v (.slice 29 T29) []), (4, .v .bool []), (12, .v (.int .i64) []), (13, .v (.int .i64) [])], [(4, .v .bool [])]) .leaf .leaf) (.node 60 (.node 2 ([(6, .v (.slice 29 T29) [0]), (25, .v (.slice 22 (.slice 29 T29)) []), (26, .v (.int .i64) []), (27, .v (.int .i64) [])], [(6, .v (.slice 29 T29) [0])]) (.node 0 ([(0, .v (.slice 22 (.slice 29 T29)) []), (3, .v (.int .i64) []), (9, .v (.slice 22 (.slice 29 T29)) []), (10, .v (.int .i64) []), (11, .v (.int .i64) [])], [(0, .v (.slice 22 (.slice 29 T29)) []), (3, .v (.int .i64) [])]) .leaf .leaf) .leaf) .leaf .leaf) .leaf)) (.node 73 (.node 0 ([(0, .v .str []), (1, .v (.int .u8) [])], [(0, .v .str [])]) .leaf .leaf) (.node 72 (.node 0 ([(0, .v .str []), (1, .v (.int .u8) [])], [(0, .v .str [])]) .leaf .leaf) (.node 67 (.node 0 ([(0, .v (.slice 29 T29) []), (1, .f), (4, .v (.int .i64) []), (7, .v (.int .i64) []), (8, .v (.int .i64) [])], [(4, .v (.int .i64) [])]) .leaf .leaf) .leaf .leaf) .leaf) (.node 79 (.node 0 ([(0, .v (.slice 9 .str) []), (1, .v .str []), (4, .v (.int .i64) []), (7, .v (.int .i64) []), (8, .v (.int .i64) [])], [(4, .v (.int .i64) [])]) .leaf .leaf) .leaf .leaf))))
/-- What is asked of the functions whose contracts are proved by hand, on top of those below them. -/
class Dfr where
  d_plot_Over : (List Nd) → Int → Option (List Int)
def plot_Over_spec [Dfr] (x0 : List Nd) (x1 : Int) : Option (List Int) := Dfr.d_plot_Over x0 x1
def frn24 [Dfr] : Tup (sg 24).args → Option (Tup (sg 24).res) := fun ⟨x0, x1⟩ => plot_Over_spec x0 x1
def slices_Clone__api_Node_spec (x0 : List Nd) : Option (List Nd) := bif roomOk x0.length 32 then some x0 else none
def frn59 : Tup (sg 59).args → Option (Tup (sg 59).res) := fun x0 => slices_Clone__api_Node_spec x0
def strings_Trim_spec (x0 : ByteArray) (x1 : ByteArray) : Option (ByteArray) := trimSpec x0 x1
def frn70 : Tup (sg 70).args → Option (Tup (sg 70).res) := fun ⟨x0, x1⟩ => strings_Trim_spec x0 x1
def frT [Dfr] (f : Nat) : Option (Tup (sg f).args → Option (Tup (sg f).res)) := if h : f = 70 then some (by rw [h]; exact frn70) else if h : f = 59 then some (by rw [h]; exact frn59) else if h : f = 24 then some (by rw [h]; exact frn24) else none
def row_words : List ByteArray := [⟨#[115, 107, 105, 112]⟩, ⟨#[116, 104, 114, 111, 119]⟩, ⟨#[121, 105, 101, 108, 100]⟩, ⟨#[115, 107, 105, 112, 112]⟩, ⟨#[116, 104, 114, 111, 119, 119]⟩, ⟨#[121, 105, 101, 108, 100, 100]⟩]
def globT (g : Nat) : Option (TypeId × Ty × Nat) := bif Nat.beq g 0 then some (9, .str, 6) else none
def globV : (g : Nat) → (t : Ty) → List t.den := fun _ t => match t with | .str => row_words | _ => []
def rowsT (f : Nat) : Option (Bool × TypeId × Ty) := none
def revsT (f : Nat) : Option (TypeId × Ty) := if f = 49 then some (3, (.int .i64)) else none
noncomputable def E [Dfr] : Env := { fn := fnT.find, sig := sg, ti := tiT.find, shape := fun f b => (shapeT.find f).bind (·.find b), glob := globT, globV := globV, foreign := frT, rows := rowsT, revs := revsT }
abbrev law11_DoomWaits_id : Nat := 3
abbrev law11_DoomOutside_id : Nat := 4
abbrev law11_DoomPar_id : Nat := 5
abbrev law11_few_id : Nat := 6
abbrev law11_alive_id : Nat := 7
abbrev settle_Settle_id : Nat := 8
abbrev doom_Active_id : Nat := 9
abbrev doom_Free_id : Nat := 10
abbrev doom_Beside_id : Nat := 11
abbrev ref03_One_id : Nat := 12
abbrev sort_On_id : Nat := 13
abbrev sort_Of_id : Nat := 14
abbrev ref03_Two_id : Nat := 15
abbrev ref03_Depth_id : Nat := 16
abbrev ref11_Ints_id : Nat := 17
abbrev doom_Doomed_id : Nat := 18
abbrev ref03_Same_id : Nat := 19
abbrev settle_settle_id : Nat := 20
abbrev settle_Settled_id : Nat := 21
abbrev doom_Active_1_id : Nat := 22
abbrev slices_ContainsFunc__int_id : Nat := 23
abbrev plot_Over_id : Nat := 24
abbrev doom_Active_1_1_id : Nat := 25
abbrev doom_kid_id : Nat := 26
abbrev doom_goes_id : Nat := 27
abbrev row_Count_id : Nat := 28
abbrev doom_beside_id : Nat := 29
abbrev slices_ContainsFunc__Sapi_Node_id : Nat := 30
abbrev sort_on_id : Nat := 31
abbrev row_Whole_id : Nat := 32
abbrev sort_sort_id : Nat := 33
abbrev ref03_Walk_id : Nat := 34
abbrev doom_doomed_id : Nat := 35
abbrev row_Kids_id : Nat := 36
abbrev settle_over_id : Nat := 37
abbrev settle_behind_id : Nat := 38
abbrev settle_stack_id : Nat := 39
abbrev settle_Ended_id : Nat := 40
abbrev row_Make_id : Nat := 41
abbrev settle_end_id : Nat := 42
abbrev settle_par_id : Nat := 43
abbrev settle_block_id : Nat := 44
abbrev row_Same_id : Nat := 45
abbrev slices_IndexFunc__int_id : Nat := 46
abbrev slices_Contains__int_id : Nat := 48
abbrev slices_IndexFunc__Sapi_Node_id : Nat := 50
abbrev row_Whole_1_id : Nat := 51
abbrev row_Right_id : Nat := 52
abbrev slices_ContainsFunc__api_Node_id : Nat := 53
abbrev row_Size_id : Nat := 54
abbrev sort_both_id : Nat := 55
abbrev sort_behind_id : Nat := 56
abbrev ref03_Arity_id : Nat := 57
abbrev row_Arity_id : Nat := 58
abbrev slices_Clone__api_Node_id : Nat := 59
abbrev slices_Concat__api_Node_id : Nat := 60
abbrev sign_Both_id : Nat := 61
abbrev slices_Equal__api_Node_id : Nat := 62
abbrev plot_one_id : Nat := 64
abbrev slices_Index__int_id : Nat := 65
abbrev row_named_id : Nat := 66
abbrev slices_IndexFunc__api_Node_id : Nat := 67
abbrev slices_Grow__api_Node_id : Nat := 68
abbrev sign_Is_id : Nat := 69
abbrev strings_Trim_id : Nat := 70
abbrev slices_Contains__string_id : Nat := 71
abbrev strings_trimLeftByte_id : Nat := 72
abbrev strings_trimRightByte_id : Nat := 73
abbrev slices_Index__string_id : Nat := 79
end Go.Proofs.YtdbabacjmkfkgaaDoor.Sv
