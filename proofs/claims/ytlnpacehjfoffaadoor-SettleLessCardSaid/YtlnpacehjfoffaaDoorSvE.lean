/- The tables of the seat's evaluator: types, signatures, functions, shapes of loops. Written by a program (emit3.py). -/

import Derived.Test.YtlnpacehjfoffaaDoorProg
import Derived.Test.YtlnpacehjfoffaaDoorEv6
namespace Go.Proofs.YtlnpacehjfoffaaDoor.Sv
open Go Go.Sv Go.Proofs
set_option linter.unusedVariables false
set_option maxRecDepth 100000
abbrev T8 : Ty := (.pair (.int .i64) (.pair (.int .i64) (.pair .bool (.int .u8))))
abbrev T14 : Ty := (.pair .str (.int .u64))
abbrev T30 : Ty := (.pair (.int .i64) (.pair .str (.int .i64)))
abbrev T81 : Ty := (.pair (.int .u8) (.int .u8))
def tiT : Tree TI := (.node 29 ⟨(.struct [(0, 3), (1, 9), (2, 3)]), 3, 32, (some T30), false⟩ (.node 9 ⟨.str, 1, 16, (some .str), false⟩ (.node 5 ⟨(.int .u8), 1, 1, (some (.int .u8)), false⟩ (.node 3 ⟨(.int .i64), 1, 8, (some (.int .i64)), false⟩ (.node 2 ⟨(.int .i64), 1, 8, (some (.int .i64)), false⟩ .leaf .leaf) (.node 4 ⟨.bool, 1, 1, (some .bool), false⟩ .leaf .leaf)) (.node 7 ⟨(.struct [(0, 2), (1, 3), (2, 4), (3, 6)]), 4, 24, (some T8), false⟩ (.node 6 ⟨(.int .u8), 1, 1, (some (.int .u8)), false⟩ .leaf .leaf) (.node 8 ⟨(.struct [(0, 2), (1, 3), (2, 4), (3, 6)]), 4, 24, (some T8), false⟩ .leaf .leaf))) (.node 13 ⟨(.struct [(0, 9), (1, 12)]), 2, 24, (some T14), false⟩ (.node 11 ⟨.str, 1, 16, (some .str), false⟩ (.node 10 ⟨.str, 1, 16, (some .str), false⟩ .leaf .leaf) (.node 12 ⟨(.int .u64), 1, 8, (some (.int .u64)), false⟩ .leaf .leaf)) (.node 21 ⟨(.int .i32), 1, 4, (some (.int .i32)), false⟩ (.node 14 ⟨(.struct [(0, 9), (1, 12)]), 2, 24, (some T14), false⟩ .leaf .leaf) (.node 22 ⟨(.slice 30), 1, 24, (some (.slice 30 T30)), false⟩ .leaf .leaf)))) (.node 81 ⟨(.struct [(0, 5), (1, 5)]), 2, 2, (some T81), false⟩ (.node 58 ⟨(.slice 3), 1, 24, (some (.slice 3 (.int .i64))), false⟩ (.node 34 ⟨(.slice 9), 1, 24, (some (.slice 9 .str)), false⟩ (.node 30 ⟨(.struct [(0, 3), (1, 9), (2, 3)]), 3, 32, (some T30), true⟩ .leaf .leaf) (.node 39 ⟨(.slice 22), 1, 24, (some (.slice 22 (.slice 30 T30))), false⟩ .leaf .leaf)) (.node 79 ⟨(.int .u64), 1, 8, (some (.int .u64)), false⟩ (.node 65 ⟨(.array 6 9), 6, 96, (some (.pair .str (.pair .str (.pair .str (.pair .str (.pair .str .str)))))), false⟩ .leaf .leaf) (.node 80 ⟨(.struct [(0, 5), (1, 5)]), 2, 2, (some T81), false⟩ .leaf .leaf))) (.node 95 ⟨(.int .u8), 1, 1, (some (.int .u8)), false⟩ (.node 93 ⟨(.int .u32), 1, 4, (some (.int .u32)), false⟩ (.node 82 ⟨(.array 16 81), 32, 32, (some (.pair T81 (.pair T81 (.pair T81 (.pair T81 (.pair T81 (.pair T81 (.pair T81 (.pair T81 (.pair T81 (.pair T81 (.pair T81 (.pair T81 (.pair T81 (.pair T81 (.pair T81 T81)))))))))))))))), false⟩ .leaf .leaf) (.node 94 ⟨(.int .u8), 1, 1, (some (.int .u8)), false⟩ .leaf .leaf)) (.node 99 ⟨(.int .i32), 1, 4, (some (.int .i32)), false⟩ (.node 98 ⟨(.int .i32), 1, 4, (some (.int .i32)), false⟩ .leaf .leaf) .leaf))))
def sigT : Tree Sig := (.node 44 ⟨[.v T30 [], .v (.slice 30 T30) []], [.v (.slice 30 T30) []], false⟩ (.node 23 ⟨[.v (.slice 30 T30) []], [.v (.slice 9 .str) []], false⟩ (.node 13 ⟨[.v (.slice 30 T30) []], [.v (.slice 30 T30) []], false⟩ (.node 8 ⟨[.v (.slice 30 T30) []], [.v .bool []], false⟩ (.node 5 ⟨[.v (.slice 30 T30) []], [.v .bool []], false⟩ (.node 4 ⟨[.v (.slice 30 T30) []], [.v .bool []], false⟩ (.node 3 ⟨[.v (.slice 30 T30) []], [.v .bool []], false⟩ .leaf .leaf) .leaf) (.node 7 ⟨[.v (.slice 30 T30) [], .v (.slice 30 T30) []], [.v .bool []], false⟩ (.node 6 ⟨[.v (.slice 30 T30) []], [.v .bool []], false⟩ .leaf .leaf) .leaf)) (.node 11 ⟨[.v (.slice 30 T30) []], [.v (.slice 30 T30) []], false⟩ (.node 10 ⟨[], [.v .bool []], false⟩ (.node 9 ⟨[.v (.slice 30 T30) []], [.v .bool []], false⟩ .leaf .leaf) .leaf) (.node 12 ⟨[.v (.slice 30 T30) [], .v (.slice 30 T30) []], [.v .bool []], false⟩ .leaf .leaf))) (.node 18 ⟨[.v (.slice 30 T30) [], .v .bool []], [.v .bool []], false⟩ (.node 16 ⟨[.v (.slice 30 T30) []], [.v (.slice 30 T30) []], false⟩ (.node 15 ⟨[.v (.slice 30 T30) []], [.v (.slice 30 T30) []], false⟩ (.node 14 ⟨[.v (.slice 30 T30) []], [.v (.int .i64) [], .v .bool []], false⟩ .leaf .leaf) .leaf) (.node 17 ⟨[.v (.slice 30 T30) []], [.v .bool []], false⟩ .leaf .leaf)) (.node 21 ⟨[.v T30 [], .v (.slice 30 T30) [], .v (.slice 30 T30) []], [.v (.slice 30 T30) []], false⟩ (.node 20 ⟨[.v (.slice 30 T30) []], [.v .bool []], false⟩ (.node 19 ⟨[.v (.slice 30 T30) []], [.v .bool []], false⟩ .leaf .leaf) .leaf) (.node 22 ⟨[.v T30 [], .v (.slice 30 T30) []], [.v (.slice 30 T30) [0]], false⟩ .leaf .leaf)))) (.node 34 ⟨[.v (.slice 30 T30) []], [.v (.slice 22 (.slice 30 T30)) []], false⟩ (.node 29 ⟨[.v (.slice 30 T30) []], [.v .bool []], false⟩ (.node 26 ⟨[.v (.slice 30 T30) []], [.v (.slice 30 T30) []], false⟩ (.node 25 ⟨[.v (.slice 30 T30) []], [.v (.int .i64) []], false⟩ (.node 24 ⟨[.v .str []], [.v T30 []], false⟩ .leaf .leaf) .leaf) (.node 28 ⟨[.v (.slice 30 T30) []], [.v (.slice 30 T30) []], false⟩ (.node 27 ⟨[.v (.slice 30 T30) []], [.v (.int .i64) []], false⟩ .leaf .leaf) .leaf)) (.node 32 ⟨[.v (.int .i64) []], [.v (.int .i64) []], false⟩ (.node 31 ⟨[.v (.slice 30 T30) [], .v (.slice 30 T30) []], [.v .bool []], false⟩ (.node 30 ⟨[.v (.slice 30 T30) []], [.v .bool []], false⟩ .leaf .leaf) .leaf) (.node 33 ⟨[.v (.slice 30 T30) []], [.v (.int .i64) []], false⟩ .leaf .leaf))) (.node 39 ⟨[.v T30 [], .v (.slice 30 T30) [], .v (.slice 30 T30) [], .v (.int .i64) []], [.v (.slice 30 T30) []], false⟩ (.node 37 ⟨[.v (.slice 30 T30) []], [.v (.slice 22 (.slice 30 T30)) [0]], false⟩ (.node 36 ⟨[.v (.slice 30 T30) [], .v (.int .i64) []], [.v (.int .i64) [], .v (.int .i64) []], false⟩ (.node 35 ⟨[.v (.slice 9 .str) [], .v .str []], [.v .bool []], false⟩ .leaf .leaf) .leaf) (.node 38 ⟨[.v (.int .i64) []], [.v (.slice 30 T30) []], false⟩ .leaf .leaf)) (.node 42 ⟨[.v (.int .i64) [], .v (.slice 30 T30) []], [.v (.slice 30 T30) []], false⟩ (.node 41 ⟨[.v T30 [], .v (.slice 22 (.slice 30 T30)) []], [.v (.slice 30 T30) []], false⟩ (.node 40 ⟨[.v (.slice 30 T30) [], .v (.slice 30 T30) []], [.v (.slice 30 T30) []], false⟩ .leaf .leaf) .leaf) (.node 43 ⟨[.v T30 [], .v (.slice 30 T30) [], .v (.slice 30 T30) []], [.v (.slice 30 T30) []], false⟩ .leaf .leaf))))) (.node 65 ⟨[.v (.slice 30 T30) [], .v (.slice 22 (.slice 30 T30)) []], [.v .bool []], false⟩ (.node 55 ⟨[.v (.slice 30 T30) []], [.v (.int .i64) []], false⟩ (.node 50 ⟨[.v (.slice 30 T30) []], [.v (.slice 30 T30) []], false⟩ (.node 47 ⟨[.v (.int .i64) []], [.v (.slice 30 T30) []], false⟩ (.node 46 ⟨[.v (.slice 30 T30) [], .v (.int .i64) []], [.v .bool []], false⟩ (.node 45 ⟨[.v (.slice 30 T30) []], [.v .bool []], false⟩ .leaf .leaf) .leaf) (.node 49 ⟨[.v (.slice 30 T30) [], .v (.slice 30 T30) []], [.v (.slice 30 T30) []], false⟩ (.node 48 ⟨[.v (.int .i64) [], .v (.slice 30 T30) [], .v (.slice 30 T30) []], [.v (.slice 30 T30) []], false⟩ .leaf .leaf) .leaf)) (.node 53 ⟨[.v (.slice 30 T30) [], .v (.slice 30 T30) []], [.v .bool []], false⟩ (.node 52 ⟨[.v (.slice 30 T30) []], [.v (.int .i64) []], false⟩ (.node 51 ⟨[.v (.slice 30 T30) []], [.v .bool []], false⟩ .leaf .leaf) .leaf) (.node 54 ⟨[.v (.slice 30 T30) []], [.v .bool []], false⟩ .leaf .leaf))) (.node 60 ⟨[.v (.int .i64) []], [.v (.int .i64) []], false⟩ (.node 58 ⟨[.v (.slice 9 .str) [], .v .str []], [.v (.int .i64) []], false⟩ (.node 57 ⟨[.v (.int .i64) []], [.v (.int .i64) []], false⟩ (.node 56 ⟨[.v (.slice 30 T30) []], [.v (.int .i64) []], false⟩ .leaf .leaf) .leaf) (.node 59 ⟨[.v (.slice 30 T30) []], [.v (.int .i64) []], false⟩ .leaf .leaf)) (.node 63 ⟨[.v (.int .i64) [], .v (.int .i64) []], [.v (.int .i64) []], false⟩ (.node 62 ⟨[.v (.slice 22 (.slice 30 T30)) []], [.v (.slice 30 T30) []], false⟩ (.node 61 ⟨[.v (.slice 30 T30) []], [.v (.slice 30 T30) [0]], false⟩ .leaf .leaf) .leaf) (.node 64 ⟨[.v T30 []], [.v .bool []], false⟩ .leaf .leaf)))) (.node 76 ⟨[.v (.int .i64) [], .v (.int .i64) [], .v (.int .i64) []], [.v (.int .i64) []], false⟩ (.node 71 ⟨[.v (.int .i64) [], .v (.int .i64) []], [.v (.int .i64) []], false⟩ (.node 68 ⟨[.v (.slice 30 T30) [], .v (.slice 22 (.slice 30 T30)) []], [.v .bool []], false⟩ (.node 67 ⟨[.v (.slice 30 T30) [], .v (.slice 22 (.slice 30 T30)) []], [.v .bool []], false⟩ (.node 66 ⟨[.v (.slice 30 T30) [], .v (.slice 22 (.slice 30 T30)) []], [.v .bool []], false⟩ .leaf .leaf) .leaf) (.node 70 ⟨[.v (.int .i64) [], .v (.slice 30 T30) []], [.v (.slice 30 T30) []], false⟩ (.node 69 ⟨[.v (.int .i64) [], .v (.int .i64) []], [.v T30 []], false⟩ .leaf .leaf) .leaf)) (.node 74 ⟨[.v (.slice 30 T30) [], .f], [.v .bool []], false⟩ (.node 73 ⟨[.v T30 []], [.v .bool []], false⟩ (.node 72 ⟨[.v T30 []], [.v .bool []], false⟩ .leaf .leaf) .leaf) (.node 75 ⟨[.v (.int .i64) [], .v (.int .i64) []], [.v (.int .i64) []], false⟩ .leaf .leaf))) (.node 81 ⟨[.v .str []], [.v .bool []], false⟩ (.node 79 ⟨[.v .str []], [.v .bool []], false⟩ (.node 78 ⟨[.v (.int .i64) []], [.v .bool []], false⟩ (.node 77 ⟨[.n 30 T30, .v (.int .i64) []], [.v (.slice 30 T30) [0]], false⟩ .leaf .leaf) .leaf) (.node 80 ⟨[.v (.int .i64) []], [.v .bool []], false⟩ .leaf .leaf)) (.node 84 ⟨[.v .str [], .v (.int .u8) []], [.v .str []], false⟩ (.node 83 ⟨[.v .str [], .v .str []], [.v .str []], false⟩ (.node 82 ⟨[.v (.slice 30 T30) [], .f], [.v (.int .i64) []], false⟩ .leaf .leaf) .leaf) (.node 85 ⟨[.v .str [], .v (.int .u8) []], [.v .str []], false⟩ .leaf .leaf))))))
abbrev sg (f : Nat) : Sig := (sigT.find f).getD ⟨[], [], false⟩
noncomputable def fnT : Tree Func := (.node 43 Tryd.f43 (.node 23 Tryd.f23 (.node 13 Tryd.f13 (.node 8 Tryd.f8 (.node 5 Tryd.f5 (.node 4 Tryd.f4 (.node 3 Tryd.f3 .leaf .leaf) .leaf) (.node 7 Tryd.f7 (.node 6 Tryd.f6 .leaf .leaf) .leaf)) (.node 11 Tryd.f11 (.node 10 Tryd.f10 (.node 9 Tryd.f9 .leaf .leaf) .leaf) (.node 12 Tryd.f12 .leaf .leaf))) (.node 18 Tryd.f18 (.node 16 Tryd.f16 (.node 15 Tryd.f15 (.node 14 Tryd.f14 .leaf .leaf) .leaf) (.node 17 Tryd.f17 .leaf .leaf)) (.node 21 Tryd.f21 (.node 20 Tryd.f20 (.node 19 Tryd.f19 .leaf .leaf) .leaf) (.node 22 Tryd.f22 .leaf .leaf)))) (.node 33 Tryd.f33 (.node 28 Tryd.f28 (.node 26 Tryd.f26 (.node 25 Tryd.f25 (.node 24 Tryd.f24 .leaf .leaf) .leaf) (.node 27 Tryd.f27 .leaf .leaf)) (.node 31 Tryd.f31 (.node 30 Tryd.f30 (.node 29 Tryd.f29 .leaf .leaf) .leaf) (.node 32 Tryd.f32 .leaf .leaf))) (.node 38 Tryd.f38 (.node 36 Tryd.f36 (.node 35 Tryd.f35 (.node 34 Tryd.f34 .leaf .leaf) .leaf) (.node 37 Tryd.f37 .leaf .leaf)) (.node 41 Tryd.f41 (.node 40 Tryd.f40 (.node 39 Tryd.f39 .leaf .leaf) .leaf) (.node 42 Tryd.f42 .leaf .leaf))))) (.node 65 Tryd.f65 (.node 54 Tryd.f54 (.node 49 Tryd.f49 (.node 46 Tryd.f46 (.node 45 Tryd.f45 (.node 44 Tryd.f44 .leaf .leaf) .leaf) (.node 48 Tryd.f48 (.node 47 Tryd.f47 .leaf .leaf) .leaf)) (.node 52 Tryd.f52 (.node 51 Tryd.f51 (.node 50 Tryd.f50 .leaf .leaf) .leaf) (.node 53 Tryd.f53 .leaf .leaf))) (.node 59 Tryd.f59 (.node 57 Tryd.f57 (.node 56 Tryd.f56 (.node 55 Tryd.f55 .leaf .leaf) .leaf) (.node 58 Tryd.f58 .leaf .leaf)) (.node 63 Tryd.f63 (.node 62 Tryd.f62 (.node 60 Tryd.f60 .leaf .leaf) .leaf) (.node 64 Tryd.f64 .leaf .leaf)))) (.node 75 Tryd.f75 (.node 70 Tryd.f70 (.node 68 Tryd.f68 (.node 67 Tryd.f67 (.node 66 Tryd.f66 .leaf .leaf) .leaf) (.node 69 Tryd.f69 .leaf .leaf)) (.node 73 Tryd.f73 (.node 72 Tryd.f72 (.node 71 Tryd.f71 .leaf .leaf) .leaf) (.node 74 Tryd.f74 .leaf .leaf))) (.node 80 Tryd.f80 (.node 78 Tryd.f78 (.node 77 Tryd.f77 (.node 76 Tryd.f76 .leaf .leaf) .leaf) (.node 79 Tryd.f79 .leaf .leaf)) (.node 84 Tryd.f84 (.node 82 Tryd.f82 (.node 81 Tryd.f81 .leaf .leaf) .leaf) (.node 85 Tryd.f85 .leaf .leaf))))))
def shapeT : Tree (Tree (Shape × Shape)) := (.node 53 (.node 0 ([(0, .v (.slice 30 T30) []), (1, .v (.slice 30 T30) []), (4, .v .bool []), (12, .v (.int .i64) []), (13, .v (.int .i64) [])], [(4, .v .bool [])]) .leaf .leaf) (.node 34 (.node 0 ([(0, .v (.slice 30 T30) []), (3, .v (.slice 22 (.slice 30 T30)) [0]), (4, .v (.int .i64) []), (5, .v (.int .i64) [])], [(3, .v (.slice 22 (.slice 30 T30)) [0])]) .leaf .leaf) (.node 23 (.node 0 ([(3, .v (.slice 9 .str) [0]), (6, .v (.slice 30 T30) []), (7, .v (.int .i64) []), (8, .v (.int .i64) [])], [(3, .v (.slice 9 .str) [0])]) .leaf .leaf) (.node 12 (.node 0 ([(0, .v (.slice 30 T30) []), (1, .v (.slice 30 T30) []), (4, .v .bool []), (5, .v (.int .i64) [])], [(4, .v .bool [])]) .leaf .leaf) (.node 8 (.node 4 ([(0, .v (.slice 30 T30) []), (2, .v .bool []), (3, .v (.slice 30 T30) []), (4, .v (.int .i64) []), (5, .v (.int .i64) []), (43, .v (.slice 30 T30) []), (44, .v (.int .i64) []), (45, .v (.int .i64) [])], [(0, .v (.slice 30 T30) []), (2, .v .bool []), (3, .v (.slice 30 T30) []), (4, .v (.int .i64) []), (5, .v (.int .i64) [])]) (.node 2 ([(0, .v (.slice 30 T30) []), (2, .v .bool []), (3, .v (.slice 30 T30) []), (4, .v (.int .i64) []), (5, .v (.int .i64) []), (30, .v (.slice 30 T30) []), (31, .v (.int .i64) []), (32, .v (.int .i64) [])], [(0, .v (.slice 30 T30) []), (2, .v .bool []), (3, .v (.slice 30 T30) []), (4, .v (.int .i64) []), (5, .v (.int .i64) [])]) (.node 0 ([(0, .v (.slice 30 T30) []), (2, .v .bool []), (3, .v (.slice 30 T30) []), (4, .v (.int .i64) [])], [(0, .v (.slice 30 T30) []), (2, .v .bool []), (3, .v (.slice 30 T30) [])]) .leaf .leaf) .leaf) (.node 8 ([(0, .v (.slice 30 T30) []), (2, .v .bool []), (11, .v .str []), (12, .v .bool []), (87, .v (.slice 9 .str) []), (88, .v (.int .i64) []), (89, .v (.int .i64) []), (93, .v (.slice 30 T30) []), (94, .v (.int .i64) []), (95, .v (.int .i64) [])], [(0, .v (.slice 30 T30) []), (2, .v .bool []), (12, .v .bool []), (87, .v (.slice 9 .str) []), (88, .v (.int .i64) []), (89, .v (.int .i64) [])]) (.node 6 ([(0, .v (.slice 30 T30) []), (2, .v .bool []), (87, .v (.slice 9 .str) []), (88, .v (.int .i64) []), (89, .v (.int .i64) [])], [(2, .v .bool [])]) .leaf .leaf) .leaf)) .leaf .leaf) .leaf) (.node 27 (.node 0 ([(0, .v (.slice 30 T30) []), (2, .v (.int .i64) []), (3, .v (.int .i64) [])], [(2, .v (.int .i64) [])]) .leaf .leaf) .leaf .leaf)) (.node 45 (.node 0 ([(0, .v (.slice 30 T30) []), (2, .v .bool []), (3, .v (.int .i64) [])], [(0, .v (.slice 30 T30) []), (2, .v .bool [])]) .leaf .leaf) (.node 37 (.node 0 ([(0, .v (.slice 30 T30) []), (3, .v (.slice 22 (.slice 30 T30)) [0]), (4, .v (.int .i64) []), (13, .v (.int .i64) []), (14, .v (.int .i64) [])], [(3, .v (.slice 22 (.slice 30 T30)) [0])]) .leaf .leaf) (.node 36 (.node 0 ([(0, .v (.slice 30 T30) []), (1, .v (.int .i64) []), (4, .v (.int .i64) []), (5, .v (.int .i64) []), (6, .v (.int .i64) []), (7, .v (.int .i64) []), (8, .v (.int .i64) [])], [(4, .v (.int .i64) []), (5, .v (.int .i64) []), (6, .v (.int .i64) []), (7, .v (.int .i64) [])]) .leaf .leaf) .leaf .leaf) .leaf) (.node 52 (.node 0 ([(3, .v (.int .i64) []), (10, .v (.slice 22 (.slice 30 T30)) [0]), (11, .v (.int .i64) []), (12, .v (.int .i64) [])], [(3, .v (.int .i64) [])]) .leaf .leaf) .leaf .leaf))) (.node 64 (.node 0 ([(1, .b T30 30 []), (2, .v .bool []), (3, .v (.int .i64) [])], [(1, .b T30 30 []), (2, .v .bool [])]) .leaf .leaf) (.node 59 (.node 0 ([(2, .v (.int .i64) []), (3, .v (.int .i64) []), (7, .v (.slice 30 T30) []), (8, .v (.int .i64) []), (9, .v (.int .i64) [])], [(2, .v (.int .i64) [])]) .leaf .leaf) (.node 58 (.node 0 ([(0, .v (.slice 9 .str) []), (1, .v .str []), (4, .v (.int .i64) []), (7, .v (.int .i64) []), (8, .v (.int .i64) [])], [(4, .v (.int .i64) [])]) .leaf .leaf) (.node 55 (.node 0 ([(0, .v (.slice 30 T30) []), (2, .v (.int .i64) []), (3, .v (.slice 3 (.int .i64)) [0]), (8, .v (.slice 22 (.slice 30 T30)) [0]), (9, .v (.int .i64) []), (10, .v (.int .i64) [])], [(0, .v (.slice 30 T30) []), (2, .v (.int .i64) []), (3, .v (.slice 3 (.int .i64)) [0])]) .leaf .leaf) .leaf .leaf) .leaf) (.node 62 (.node 2 ([(6, .v (.slice 30 T30) [0]), (25, .v (.slice 22 (.slice 30 T30)) []), (26, .v (.int .i64) []), (27, .v (.int .i64) [])], [(6, .v (.slice 30 T30) [0])]) (.node 0 ([(0, .v (.slice 22 (.slice 30 T30)) []), (3, .v (.int .i64) []), (9, .v (.slice 22 (.slice 30 T30)) []), (10, .v (.int .i64) []), (11, .v (.int .i64) [])], [(0, .v (.slice 22 (.slice 30 T30)) []), (3, .v (.int .i64) [])]) .leaf .leaf) .leaf) .leaf .leaf)) (.node 84 (.node 0 ([(0, .v .str []), (1, .v (.int .u8) [])], [(0, .v .str [])]) .leaf .leaf) (.node 82 (.node 0 ([(0, .v (.slice 30 T30) []), (1, .f), (4, .v (.int .i64) []), (7, .v (.int .i64) []), (8, .v (.int .i64) [])], [(4, .v (.int .i64) [])]) .leaf .leaf) .leaf .leaf) (.node 85 (.node 0 ([(0, .v .str []), (1, .v (.int .u8) [])], [(0, .v .str [])]) .leaf .leaf) .leaf .leaf))))
def slices_Clone__api_Node_spec (x0 : List Nd) : Option (List Nd) := bif roomOk x0.length 32 then some x0 else none
def frn61 : Tup (sg 61).args → Option (Tup (sg 61).res) := fun x0 => slices_Clone__api_Node_spec x0
def strings_Trim_spec (x0 : ByteArray) (x1 : ByteArray) : Option (ByteArray) := trimSpec x0 x1
def frn83 : Tup (sg 83).args → Option (Tup (sg 83).res) := fun ⟨x0, x1⟩ => strings_Trim_spec x0 x1
def frT (f : Nat) : Option (Tup (sg f).args → Option (Tup (sg f).res)) := if h : f = 83 then some (by rw [h]; exact frn83) else if h : f = 61 then some (by rw [h]; exact frn61) else none
def row_words : List ByteArray := [⟨#[115, 107, 105, 112]⟩, ⟨#[116, 104, 114, 111, 119]⟩, ⟨#[121, 105, 101, 108, 100]⟩, ⟨#[115, 107, 105, 112, 112]⟩, ⟨#[116, 104, 114, 111, 119, 119]⟩, ⟨#[121, 105, 101, 108, 100, 100]⟩]
def globT (g : Nat) : Option (TypeId × Ty × Nat) := bif Nat.beq g 0 then some (9, .str, 6) else none
def globV : (g : Nat) → (t : Ty) → List t.den := fun _ t => match t with | .str => row_words | _ => []
noncomputable def E : Env := { fn := fnT.find, sig := sg, ti := tiT.find, shape := fun f b => (shapeT.find f).bind (·.find b), glob := globT, globV := globV, foreign := frT }
abbrev law10_SettleAll_id : Nat := 3
abbrev law10_SettleBegins_id : Nat := 4
abbrev law10_SettleTwice_id : Nat := 5
abbrev law10_SettleEnds_id : Nat := 6
abbrev law10_SettleUnder_id : Nat := 7
abbrev law10_SettleLess_id : Nat := 8
abbrev law10_few_id : Nat := 9
abbrev law10_alive_id : Nat := 10
abbrev settle_Settle_id : Nat := 11
abbrev ref03_Same_id : Nat := 12
abbrev ref10_Settle_id : Nat := 13
abbrev settle_Ended_id : Nat := 14
abbrev settle_Begin_id : Nat := 15
abbrev ref10_Begin_id : Nat := 16
abbrev settle_Settled_id : Nat := 17
abbrev sort_On_id : Nat := 18
abbrev law10_waits_id : Nat := 19
abbrev law10_stuck_id : Nat := 20
abbrev ref03_Two_id : Nat := 21
abbrev ref03_One_id : Nat := 22
abbrev sort_Acts_id : Nat := 23
abbrev law10_act_id : Nat := 24
abbrev ref03_Depth_id : Nat := 25
abbrev settle_settle_id : Nat := 26
abbrev ref04_Of_id : Nat := 27
abbrev ref10_Tree_id : Nat := 28
abbrev sort_Right_id : Nat := 29
abbrev ref04_Right_id : Nat := 30
abbrev row_Same_id : Nat := 31
abbrev sort_on_id : Nat := 32
abbrev sort_Of_id : Nat := 33
abbrev ref03_Kids_id : Nat := 34
abbrev slices_Contains__string_id : Nat := 35
abbrev ref03_Walk_id : Nat := 36
abbrev row_Kids_id : Nat := 37
abbrev settle_over_id : Nat := 38
abbrev settle_behind_id : Nat := 39
abbrev settle_stack_id : Nat := 40
abbrev row_Make_id : Nat := 41
abbrev settle_end_id : Nat := 42
abbrev settle_par_id : Nat := 43
abbrev settle_block_id : Nat := 44
abbrev ref03_Whole_id : Nat := 45
abbrev ref04_Is_id : Nat := 46
abbrev ref10_over_id : Nat := 47
abbrev ref10_first_id : Nat := 48
abbrev ref10_par_id : Nat := 49
abbrev ref10_block_id : Nat := 50
abbrev sort_Term_id : Nat := 51
abbrev row_Depth_id : Nat := 52
abbrev slices_Equal__api_Node_id : Nat := 53
abbrev row_Whole_id : Nat := 54
abbrev sort_sort_id : Nat := 55
abbrev ref03_Size_id : Nat := 56
abbrev ref03_Arity_id : Nat := 57
abbrev slices_Index__string_id : Nat := 58
abbrev row_Size_id : Nat := 59
abbrev row_Arity_id : Nat := 60
abbrev slices_Clone__api_Node_id : Nat := 61
abbrev slices_Concat__api_Node_id : Nat := 62
abbrev sign_Both_id : Nat := 63
abbrev ref03_Right_id : Nat := 64
abbrev ref04_plain_id : Nat := 65
abbrev ref04_paired_id : Nat := 66
abbrev ref04_plainOn_id : Nat := 67
abbrev ref04_pairedOn_id : Nat := 68
abbrev ref10_node_id : Nat := 69
abbrev ref10_end_id : Nat := 70
abbrev ref01_Both_id : Nat := 71
abbrev row_Whole_1_id : Nat := 72
abbrev row_Right_id : Nat := 73
abbrev slices_ContainsFunc__api_Node_id : Nat := 74
abbrev sort_both_id : Nat := 75
abbrev sort_behind_id : Nat := 76
abbrev slices_Grow__api_Node_id : Nat := 77
abbrev sign_Is_id : Nat := 78
abbrev ref03_word_id : Nat := 79
abbrev ref01_Is_id : Nat := 80
abbrev row_named_id : Nat := 81
abbrev slices_IndexFunc__api_Node_id : Nat := 82
abbrev strings_Trim_id : Nat := 83
abbrev strings_trimLeftByte_id : Nat := 84
abbrev strings_trimRightByte_id : Nat := 85
end Go.Proofs.YtlnpacehjfoffaaDoor.Sv
