/- The tables of the seat's evaluator: types, signatures, functions, shapes of loops. Written by a program (emit3.py). -/
import Derived.Test.YtjogkjgpbeenfaaDoorProg
import Derived.Test.YtjogkjgpbeenfaaDoorEv6
namespace Go.Proofs.YtjogkjgpbeenfaaDoor.Sv
open Go Go.Sv Go.Proofs
set_option linter.unusedVariables false
set_option maxRecDepth 100000
abbrev T8 : Ty := (.pair (.int .i64) (.pair (.int .i64) (.pair .bool (.int .u8))))
abbrev T14 : Ty := (.pair .str (.int .u64))
abbrev T28 : Ty := (.pair (.int .i64) (.pair .str (.int .i64)))
abbrev T33 : Ty := (.pair (.int .i64) (.int .i64))
abbrev T56 : Ty := (.pair (.int .i64) .fn)
abbrev T127 : Ty := (.pair (.int .u8) (.int .u8))
def tiT : Tree TI := (.node 43 ⟨(.array 2 3), 2, 16, (some T33), false⟩ (.node 12 ⟨(.int .u64), 1, 8, (some (.int .u64)), false⟩ (.node 7 ⟨(.struct [(0, 2), (1, 3), (2, 4), (3, 6)]), 4, 24, (some T8), false⟩ (.node 4 ⟨.bool, 1, 1, (some .bool), false⟩ (.node 3 ⟨(.int .i64), 1, 8, (some (.int .i64)), false⟩ (.node 2 ⟨(.int .i64), 1, 8, (some (.int .i64)), false⟩ .leaf .leaf) .leaf) (.node 6 ⟨(.int .u8), 1, 1, (some (.int .u8)), false⟩ (.node 5 ⟨(.int .u8), 1, 1, (some (.int .u8)), false⟩ .leaf .leaf) .leaf)) (.node 10 ⟨.str, 1, 16, (some .str), false⟩ (.node 9 ⟨.str, 1, 16, (some .str), false⟩ (.node 8 ⟨(.struct [(0, 2), (1, 3), (2, 4), (3, 6)]), 4, 24, (some T8), false⟩ .leaf .leaf) .leaf) (.node 11 ⟨.str, 1, 16, (some .str), false⟩ .leaf .leaf))) (.node 28 ⟨(.struct [(0, 3), (1, 9), (2, 3)]), 3, 32, (some T28), true⟩ (.node 21 ⟨(.int .i32), 1, 4, (some (.int .i32)), false⟩ (.node 14 ⟨(.struct [(0, 9), (1, 12)]), 2, 24, (some T14), false⟩ (.node 13 ⟨(.struct [(0, 9), (1, 12)]), 2, 24, (some T14), false⟩ .leaf .leaf) .leaf) (.node 27 ⟨(.struct [(0, 3), (1, 9), (2, 3)]), 3, 32, (some T28), false⟩ (.node 22 ⟨(.slice 28), 1, 24, (some (.slice 28 T28)), false⟩ .leaf .leaf) .leaf)) (.node 33 ⟨(.struct [(0, 3), (1, 3)]), 2, 16, (some T33), true⟩ (.node 32 ⟨(.struct [(0, 3), (1, 3)]), 2, 16, (some T33), false⟩ (.node 30 ⟨(.slice 33), 1, 24, (some (.slice 33 T33)), false⟩ .leaf .leaf) .leaf) (.node 34 ⟨(.int .i64), 1, 8, (some (.int .i64)), false⟩ .leaf .leaf)))) (.node 109 ⟨(.slice 9), 1, 24, (some (.slice 9 .str)), false⟩ (.node 56 ⟨(.struct [(0, 3), (1, 54)]), 2, 16, (some T56), false⟩ (.node 53 ⟨(.slice 56), 1, 24, (some (.slice 56 T56)), false⟩ (.node 51 ⟨(.slice 3), 1, 24, (some (.slice 3 (.int .i64))), false⟩ (.node 49 ⟨(.map 3 53), 1, 8, none, false⟩ .leaf .leaf) .leaf) (.node 55 ⟨(.struct [(0, 3), (1, 54)]), 2, 16, (some T56), false⟩ (.node 54 ⟨.other, 1, 8, (some .fn), false⟩ .leaf .leaf) .leaf)) (.node 103 ⟨(.struct [(0, 3), (1, 3)]), 2, 16, (some T33), false⟩ (.node 100 ⟨(.slice 104), 1, 24, (some (.slice 104 T33)), false⟩ (.node 71 ⟨(.slice 22), 1, 24, (some (.slice 22 (.slice 28 T28))), false⟩ .leaf .leaf) .leaf) (.node 104 ⟨(.struct [(0, 3), (1, 3)]), 2, 16, (some T33), false⟩ .leaf .leaf))) (.node 139 ⟨(.int .u32), 1, 4, (some (.int .u32)), false⟩ (.node 126 ⟨(.struct [(0, 5), (1, 5)]), 2, 2, (some T127), false⟩ (.node 125 ⟨(.int .u64), 1, 8, (some (.int .u64)), false⟩ (.node 110 ⟨(.array 6 9), 6, 96, (some (.pair .str (.pair .str (.pair .str (.pair .str (.pair .str .str)))))), false⟩ .leaf .leaf) .leaf) (.node 128 ⟨(.array 16 127), 32, 32, (some (.pair T127 (.pair T127 (.pair T127 (.pair T127 (.pair T127 (.pair T127 (.pair T127 (.pair T127 (.pair T127 (.pair T127 (.pair T127 (.pair T127 (.pair T127 (.pair T127 (.pair T127 T127)))))))))))))))), false⟩ (.node 127 ⟨(.struct [(0, 5), (1, 5)]), 2, 2, (some T127), false⟩ .leaf .leaf) .leaf)) (.node 144 ⟨(.int .i32), 1, 4, (some (.int .i32)), false⟩ (.node 141 ⟨(.int .u8), 1, 1, (some (.int .u8)), false⟩ (.node 140 ⟨(.int .u8), 1, 1, (some (.int .u8)), false⟩ .leaf .leaf) .leaf) (.node 145 ⟨(.int .i32), 1, 4, (some (.int .i32)), false⟩ .leaf .leaf)))))
def sigT : Tree Sig := (.node 46 ⟨[.v T28 []], [.v (.int .i64) []], false⟩ (.node 24 ⟨[.v (.slice 28 T28) []], [.v (.int .i64) []], false⟩ (.node 13 ⟨[.v (.slice 28 T28) []], [.v (.slice 33 T33) []], false⟩ (.node 8 ⟨[.v (.slice 28 T28) []], [.v .bool []], false⟩ (.node 5 ⟨[.v (.slice 28 T28) [], .v T33 []], [.v .bool []], false⟩ (.node 4 ⟨[.v (.slice 28 T28) []], [.v .bool []], false⟩ (.node 3 ⟨[.v (.slice 28 T28) [], .v (.int .i64) [], .v (.slice 28 T28) []], [.v .bool []], false⟩ .leaf .leaf) .leaf) (.node 7 ⟨[.v (.slice 28 T28) [], .v (.slice 28 T28) [], .v T33 []], [.v .bool []], false⟩ (.node 6 ⟨[.v (.slice 28 T28) []], [.v .bool []], false⟩ .leaf .leaf) .leaf)) (.node 11 ⟨[.v (.slice 28 T28) [], .v (.int .i64) [], .v (.slice 28 T28) []], [.v (.slice 28 T28) []], false⟩ (.node 10 ⟨[.v (.slice 28 T28) [], .v (.int .i64) [], .v (.slice 28 T28) []], [.v (.slice 28 T28) [0]], false⟩ (.node 9 ⟨[], [.v .bool []], false⟩ .leaf .leaf) .leaf) (.node 12 ⟨[.v (.slice 28 T28) [], .v (.slice 28 T28) []], [.v .bool []], false⟩ .leaf .leaf))) (.node 19 ⟨[.v (.slice 28 T28) [], .v (.slice 3 (.int .i64)) []], [.v (.int .i64) []], false⟩ (.node 16 ⟨[.v (.slice 28 T28) [], .v .bool []], [.v .bool []], false⟩ (.node 15 ⟨[.v (.slice 28 T28) []], [.v .bool []], false⟩ (.node 14 ⟨[.v (.slice 28 T28) [], .v T33 []], [.v (.slice 28 T28) [], .v .str [], .v (.int .i64) []], false⟩ .leaf .leaf) .leaf) (.node 18 ⟨[.v (.slice 28 T28) []], [.v (.int .i64) []], false⟩ (.node 17 ⟨[.v (.slice 28 T28) [], .v T33 []], [.v (.slice 28 T28) [], .v (.int .i64) []], false⟩ .leaf .leaf) .leaf)) (.node 22 ⟨[.v (.slice 28 T28) []], [.v (.int .i64) []], false⟩ (.node 21 ⟨[.v T28 [], .v (.slice 28 T28) [], .v (.slice 28 T28) []], [.v (.slice 28 T28) []], false⟩ (.node 20 ⟨[.v (.slice 28 T28) [], .v (.int .i64) []], [.v T33 [], .v (.int .i64) []], false⟩ .leaf .leaf) .leaf) (.node 23 ⟨[.v .str []], [.v T28 []], false⟩ .leaf .leaf)))) (.node 35 ⟨[.v (.slice 3 (.int .i64)) [], .v (.int .i64) []], [.v .bool []], false⟩ (.node 30 ⟨[.v (.slice 28 T28) [], .v (.int .i64) []], [.v (.slice 28 T28) []], false⟩ (.node 27 ⟨[.v (.slice 28 T28) []], [.v (.slice 3 (.int .i64)) []], false⟩ (.node 26 ⟨[], [.p (.slice 4611686018427387905 (.pair (.int .i64) (.slice 56 T56)))], false⟩ (.node 25 ⟨[.v (.slice 28 T28) []], [.v (.int .i64) []], false⟩ .leaf .leaf) .leaf) (.node 29 ⟨[.v (.slice 28 T28) []], [.v (.slice 28 T28) []], false⟩ (.node 28 ⟨[.v (.slice 28 T28) [], .v T33 []], [.v .bool []], false⟩ .leaf .leaf) .leaf)) (.node 33 ⟨[.v (.slice 28 T28) []], [.v (.int .i64) []], false⟩ (.node 32 ⟨[.v (.int .i64) []], [.v (.int .i64) []], false⟩ (.node 31 ⟨[.v (.slice 28 T28) [], .v (.slice 28 T28) []], [.v .bool []], false⟩ .leaf .leaf) .leaf) (.node 34 ⟨[.v (.int .i64) [], .v (.int .i64) []], [.v (.slice 28 T28) []], false⟩ .leaf .leaf))) (.node 41 ⟨[.v (.int .i64) [], .p (.slice 28 T28)], [.v .bool []], false⟩ (.node 38 ⟨[.v (.int .i64) []], [.v (.int .i64) []], false⟩ (.node 37 ⟨[.v (.slice 28 T28) [], .v (.int .i64) []], [.v (.int .i64) [], .v (.int .i64) []], false⟩ (.node 36 ⟨[.v T28 [], .v (.slice 28 T28) []], [.v (.slice 28 T28) [0]], false⟩ .leaf .leaf) .leaf) (.node 40 ⟨[.v (.slice 28 T28) [], .v (.int .i64) []], [.v .bool []], false⟩ (.node 39 ⟨[.v (.slice 28 T28) [], .v (.int .i64) []], [.v .bool []], false⟩ .leaf .leaf) .leaf)) (.node 44 ⟨[.v (.int .i64) [], .p (.slice 28 T28), .p (.int .i64)], [.v .bool []], false⟩ (.node 43 ⟨[.v (.slice 28 T28) [], .v (.int .i64) []], [.v (.slice 3 (.int .i64)) [0]], false⟩ (.node 42 ⟨[.v (.slice 3 (.int .i64)) [], .f], [.v .bool []], false⟩ .leaf .leaf) .leaf) (.node 45 ⟨[.v (.slice 28 T28) [], .v (.int .i64) [], .v (.int .i64) []], [.v (.int .i64) []], false⟩ .leaf .leaf))))) (.node 69 ⟨[.v T28 [], .v (.slice 28 T28) []], [.v (.slice 28 T28) []], false⟩ (.node 57 ⟨[.v (.slice 28 T28) [], .v (.int .i64) []], [.v (.slice 22 (.slice 28 T28)) [], .v .bool []], false⟩ (.node 52 ⟨[.v (.slice 28 T28) [], .v (.slice 28 T28) []], [.v .bool []], false⟩ (.node 49 ⟨[.v (.slice 28 T28) []], [.v (.slice 22 (.slice 28 T28)) [0]], false⟩ (.node 48 ⟨[.v (.slice 28 T28) []], [.v (.slice 28 T28) []], false⟩ (.node 47 ⟨[.v (.slice 33 T33) [], .v T33 []], [.v .bool []], false⟩ .leaf .leaf) .leaf) (.node 51 ⟨[.v T28 [], .v (.slice 22 (.slice 28 T28)) []], [.v (.slice 28 T28) []], false⟩ (.node 50 ⟨[.v (.slice 28 T28) [], .v (.slice 28 T28) [], .p (.slice 28 T28)], [.v (.slice 28 T28) []], false⟩ .leaf .leaf) .leaf)) (.node 55 ⟨[.v (.slice 3 (.int .i64)) [], .v (.int .i64) []], [.v (.int .i64) []], false⟩ (.node 54 ⟨[.v (.slice 28 T28) []], [.v (.int .i64) []], false⟩ (.node 53 ⟨[.v (.slice 28 T28) []], [.v .bool []], false⟩ .leaf .leaf) .leaf) (.node 56 ⟨[.v (.int .i64) []], [.v (.int .i64) []], false⟩ .leaf .leaf))) (.node 64 ⟨[.v T28 [], .v (.slice 28 T28) [], .v (.slice 28 T28) [], .v (.int .i64) []], [.v (.slice 28 T28) []], false⟩ (.node 60 ⟨[.v (.slice 3 (.int .i64)) [], .f], [.v (.int .i64) []], false⟩ (.node 59 ⟨[.v (.slice 28 T28) []], [.v .bool []], false⟩ (.node 58 ⟨[.v (.slice 22 (.slice 28 T28)) [], .f], [.v .bool []], false⟩ .leaf .leaf) .leaf) (.node 63 ⟨[.v (.int .i64) []], [.v (.slice 28 T28) []], false⟩ (.node 62 ⟨[.v (.slice 33 T33) [], .v T33 []], [.v (.int .i64) []], false⟩ .leaf .leaf) .leaf)) (.node 67 ⟨[.v (.int .i64) [], .v (.slice 28 T28) []], [.v (.slice 28 T28) []], false⟩ (.node 66 ⟨[.v (.slice 28 T28) []], [.v (.int .i64) [], .v .bool []], false⟩ (.node 65 ⟨[.v (.slice 28 T28) [], .v (.slice 28 T28) []], [.v (.slice 28 T28) []], false⟩ .leaf .leaf) .leaf) (.node 68 ⟨[.v T28 [], .v (.slice 28 T28) [], .v (.slice 28 T28) []], [.v (.slice 28 T28) []], false⟩ .leaf .leaf)))) (.node 81 ⟨[.v (.slice 28 T28) []], [.v .bool []], false⟩ (.node 75 ⟨[.v (.int .i64) [], .v (.int .i64) []], [.v (.int .i64) []], false⟩ (.node 72 ⟨[.v T28 []], [.v .bool []], false⟩ (.node 71 ⟨[.v (.slice 22 (.slice 28 T28)) []], [.v (.slice 28 T28) [0]], false⟩ (.node 70 ⟨[.v (.slice 28 T28) []], [.v (.slice 28 T28) [0]], false⟩ .leaf .leaf) .leaf) (.node 74 ⟨[.v (.slice 28 T28) [], .f], [.v .bool []], false⟩ (.node 73 ⟨[.v T28 []], [.v .bool []], false⟩ .leaf .leaf) .leaf)) (.node 78 ⟨[.v (.slice 22 (.slice 28 T28)) [], .f], [.v (.int .i64) []], false⟩ (.node 77 ⟨[], [], true⟩ (.node 76 ⟨[.v (.int .i64) [], .v (.int .i64) [], .v (.int .i64) []], [.v (.int .i64) []], false⟩ .leaf .leaf) .leaf) (.node 79 ⟨[.v (.slice 28 T28) []], [.v .bool []], false⟩ .leaf .leaf))) (.node 87 ⟨[.v .str [], .v .str []], [.v .str []], false⟩ (.node 84 ⟨[.v .str []], [.v .bool []], false⟩ (.node 83 ⟨[.n 28 T28, .v (.int .i64) []], [.v (.slice 28 T28) [0]], false⟩ (.node 82 ⟨[.v (.int .i64) [], .v (.int .i64) []], [.v (.int .i64) []], false⟩ .leaf .leaf) .leaf) (.node 86 ⟨[.v (.int .i64) []], [.v .bool []], false⟩ (.node 85 ⟨[.v (.slice 28 T28) [], .f], [.v (.int .i64) []], false⟩ .leaf .leaf) .leaf)) (.node 90 ⟨[.v .str [], .v (.int .u8) []], [.v .str []], false⟩ (.node 89 ⟨[.v .str [], .v (.int .u8) []], [.v .str []], false⟩ (.node 88 ⟨[.v (.slice 9 .str) [], .v .str []], [.v .bool []], false⟩ .leaf .leaf) .leaf) (.node 96 ⟨[.v (.slice 9 .str) [], .v .str []], [.v (.int .i64) []], false⟩ .leaf .leaf))))))
abbrev sg (f : Nat) : Sig := (sigT.find f).getD ⟨[], [], false⟩
noncomputable def fnT : Tree Func := (.node 46 Tryd.f46 (.node 24 Tryd.f24 (.node 14 Tryd.f14 (.node 8 Tryd.f8 (.node 5 Tryd.f5 (.node 4 Tryd.f4 (.node 3 Tryd.f3 .leaf .leaf) .leaf) (.node 7 Tryd.f7 (.node 6 Tryd.f6 .leaf .leaf) .leaf)) (.node 12 Tryd.f12 (.node 11 Tryd.f11 (.node 9 Tryd.f9 .leaf .leaf) .leaf) (.node 13 Tryd.f13 .leaf .leaf))) (.node 19 Tryd.f19 (.node 17 Tryd.f17 (.node 16 Tryd.f16 (.node 15 Tryd.f15 .leaf .leaf) .leaf) (.node 18 Tryd.f18 .leaf .leaf)) (.node 22 Tryd.f22 (.node 21 Tryd.f21 (.node 20 Tryd.f20 .leaf .leaf) .leaf) (.node 23 Tryd.f23 .leaf .leaf)))) (.node 35 Tryd.f35 (.node 30 Tryd.f30 (.node 28 Tryd.f28 (.node 27 Tryd.f27 (.node 25 Tryd.f25 .leaf .leaf) .leaf) (.node 29 Tryd.f29 .leaf .leaf)) (.node 33 Tryd.f33 (.node 32 Tryd.f32 (.node 31 Tryd.f31 .leaf .leaf) .leaf) (.node 34 Tryd.f34 .leaf .leaf))) (.node 40 Tryd.f40 (.node 38 Tryd.f38 (.node 37 Tryd.f37 (.node 36 Tryd.f36 .leaf .leaf) .leaf) (.node 39 Tryd.f39 .leaf .leaf)) (.node 44 Tryd.f44 (.node 42 Tryd.f42 (.node 41 Tryd.f41 .leaf .leaf) .leaf) (.node 45 Tryd.f45 .leaf .leaf))))) (.node 68 Tryd.f68 (.node 57 Tryd.f57 (.node 52 Tryd.f52 (.node 49 Tryd.f49 (.node 48 Tryd.f48 (.node 47 Tryd.f47 .leaf .leaf) .leaf) (.node 51 Tryd.f51 (.node 50 Tryd.f50 .leaf .leaf) .leaf)) (.node 55 Tryd.f55 (.node 54 Tryd.f54 (.node 53 Tryd.f53 .leaf .leaf) .leaf) (.node 56 Tryd.f56 .leaf .leaf))) (.node 63 Tryd.f63 (.node 60 Tryd.f60 (.node 59 Tryd.f59 (.node 58 Tryd.f58 .leaf .leaf) .leaf) (.node 62 Tryd.f62 .leaf .leaf)) (.node 66 Tryd.f66 (.node 65 Tryd.f65 (.node 64 Tryd.f64 .leaf .leaf) .leaf) (.node 67 Tryd.f67 .leaf .leaf)))) (.node 81 Tryd.f81 (.node 74 Tryd.f74 (.node 72 Tryd.f72 (.node 71 Tryd.f71 (.node 69 Tryd.f69 .leaf .leaf) .leaf) (.node 73 Tryd.f73 .leaf .leaf)) (.node 78 Tryd.f78 (.node 76 Tryd.f76 (.node 75 Tryd.f75 .leaf .leaf) .leaf) (.node 79 Tryd.f79 .leaf .leaf))) (.node 86 Tryd.f86 (.node 84 Tryd.f84 (.node 83 Tryd.f83 (.node 82 Tryd.f82 .leaf .leaf) .leaf) (.node 85 Tryd.f85 .leaf .leaf)) (.node 90 Tryd.f90 (.node 89 Tryd.f89 (.node 88 Tryd.f88 .leaf .leaf) .leaf) (.node 96 Tryd.f96 .leaf .leaf))))))
def shapeT : Tree (Tree (Shape × Shape)) := (.node 52 (.node 0 ([(0, .v (.slice 28 T28) []), (1, .v (.slice 28 T28) []), (4, .v .bool []), (12, .v (.int .i64) []), (13, .v (.int .i64) [])], [(4, .v .bool [])]) .leaf .leaf) (.node 19 (.node 0 ([(1, .v (.slice 3 (.int .i64)) []), (5, .v (.int .i64) []), (8, .v (.slice 28 T28) []), (9, .v (.int .i64) []), (10, .v (.int .i64) [])], [(5, .v (.int .i64) [])]) .leaf .leaf) (.node 6 (.node 0 ([(0, .v (.slice 28 T28) []), (2, .v .bool []), (3, .f), (14, .v (.slice 33 T33) []), (15, .v (.int .i64) []), (16, .v (.int .i64) [])], [(2, .v .bool [])]) .leaf .leaf) (.node 4 (.node 0 ([(0, .v (.slice 28 T28) []), (2, .v .bool []), (13, .v (.slice 33 T33) []), (14, .v (.int .i64) []), (15, .v (.int .i64) [])], [(2, .v .bool [])]) .leaf .leaf) (.node 3 (.node 0 ([(0, .v (.slice 28 T28) []), (7, .v (.slice 28 T28) [0]), (8, .v (.slice 28 T28) [0]), (36, .v (.int .i64) []), (37, .v (.int .i64) [])], [(0, .v (.slice 28 T28) []), (7, .v (.slice 28 T28) [0])]) .leaf .leaf) .leaf .leaf) .leaf) (.node 13 (.node 2 ([(0, .v (.slice 28 T28) []), (3, .p (.slice 4611686018427387905 (.pair (.int .i64) (.slice 56 T56)))), (4, .v (.slice 33 T33) [0]), (6, .v (.int .i64) []), (11, .v (.slice 3 (.int .i64)) []), (12, .v (.int .i64) []), (13, .v (.int .i64) []), (23, .v (.slice 56 T56) []), (24, .v (.int .i64) []), (25, .v (.int .i64) [])], [(0, .v (.slice 28 T28) []), (3, .p (.slice 4611686018427387905 (.pair (.int .i64) (.slice 56 T56)))), (4, .v (.slice 33 T33) [0]), (11, .v (.slice 3 (.int .i64)) []), (12, .v (.int .i64) []), (13, .v (.int .i64) [])]) (.node 0 ([(0, .v (.slice 28 T28) []), (3, .p (.slice 4611686018427387905 (.pair (.int .i64) (.slice 56 T56)))), (4, .v (.slice 33 T33) [0]), (11, .v (.slice 3 (.int .i64)) []), (12, .v (.int .i64) []), (13, .v (.int .i64) [])], [(4, .v (.slice 33 T33) [0])]) .leaf .leaf) .leaf) (.node 12 (.node 0 ([(0, .v (.slice 28 T28) []), (1, .v (.slice 28 T28) []), (4, .v .bool []), (5, .v (.int .i64) [])], [(4, .v .bool [])]) .leaf .leaf) .leaf .leaf) .leaf)) (.node 37 (.node 0 ([(0, .v (.slice 28 T28) []), (1, .v (.int .i64) []), (4, .v (.int .i64) []), (5, .v (.int .i64) []), (6, .v (.int .i64) []), (7, .v (.int .i64) []), (8, .v (.int .i64) [])], [(4, .v (.int .i64) []), (5, .v (.int .i64) []), (6, .v (.int .i64) []), (7, .v (.int .i64) [])]) .leaf .leaf) (.node 27 (.node 0 ([(1, .p (.slice 28 T28)), (3, .f), (4, .v (.slice 3 (.int .i64)) [0]), (11, .v (.int .i64) []), (12, .v (.int .i64) [])], [(4, .v (.slice 3 (.int .i64)) [0])]) .leaf .leaf) (.node 24 (.node 0 ([(2, .v (.int .i64) []), (3, .v (.int .i64) []), (7, .v (.slice 28 T28) []), (8, .v (.int .i64) []), (9, .v (.int .i64) [])], [(2, .v (.int .i64) [])]) .leaf .leaf) .leaf .leaf) .leaf) (.node 49 (.node 0 ([(0, .v (.slice 28 T28) []), (3, .v (.slice 22 (.slice 28 T28)) [0]), (4, .v (.int .i64) []), (13, .v (.int .i64) []), (14, .v (.int .i64) [])], [(3, .v (.slice 22 (.slice 28 T28)) [0])]) .leaf .leaf) (.node 45 (.node 0 ([(2, .v (.int .i64) []), (6, .v (.int .i64) []), (16, .v (.slice 22 (.slice 28 T28)) [0]), (17, .v (.int .i64) []), (18, .v (.int .i64) [])], [(6, .v (.int .i64) [])]) .leaf .leaf) .leaf .leaf) .leaf))) (.node 71 (.node 2 ([(6, .v (.slice 28 T28) [0]), (25, .v (.slice 22 (.slice 28 T28)) []), (26, .v (.int .i64) []), (27, .v (.int .i64) [])], [(6, .v (.slice 28 T28) [0])]) (.node 0 ([(0, .v (.slice 22 (.slice 28 T28)) []), (3, .v (.int .i64) []), (9, .v (.slice 22 (.slice 28 T28)) []), (10, .v (.int .i64) []), (11, .v (.int .i64) [])], [(0, .v (.slice 22 (.slice 28 T28)) []), (3, .v (.int .i64) [])]) .leaf .leaf) .leaf) (.node 57 (.node 0 ([(0, .v (.slice 28 T28) []), (1, .v (.int .i64) []), (4, .v (.slice 22 (.slice 28 T28)) [0]), (5, .v .bool []), (19, .v (.slice 3 (.int .i64)) [0]), (20, .v (.int .i64) []), (21, .v (.int .i64) [])], [(4, .v (.slice 22 (.slice 28 T28)) [0]), (5, .v .bool [])]) .leaf .leaf) (.node 55 (.node 0 ([(0, .v (.slice 3 (.int .i64)) []), (1, .v (.int .i64) []), (4, .v (.int .i64) []), (7, .v (.int .i64) []), (8, .v (.int .i64) [])], [(4, .v (.int .i64) [])]) .leaf .leaf) (.node 54 (.node 0 ([(0, .v (.slice 28 T28) []), (2, .v (.int .i64) []), (3, .v (.slice 3 (.int .i64)) [0]), (8, .v (.slice 22 (.slice 28 T28)) [0]), (9, .v (.int .i64) []), (10, .v (.int .i64) [])], [(0, .v (.slice 28 T28) []), (2, .v (.int .i64) []), (3, .v (.slice 3 (.int .i64)) [0])]) .leaf .leaf) .leaf .leaf) .leaf) (.node 62 (.node 0 ([(0, .v (.slice 33 T33) []), (3, .b T33 33 []), (4, .v (.int .i64) []), (7, .v (.int .i64) []), (8, .v (.int .i64) [])], [(4, .v (.int .i64) [])]) .leaf .leaf) (.node 60 (.node 0 ([(0, .v (.slice 3 (.int .i64)) []), (1, .f), (4, .v (.int .i64) []), (7, .v (.int .i64) []), (8, .v (.int .i64) [])], [(4, .v (.int .i64) [])]) .leaf .leaf) .leaf .leaf) .leaf)) (.node 89 (.node 0 ([(0, .v .str []), (1, .v (.int .u8) [])], [(0, .v .str [])]) .leaf .leaf) (.node 85 (.node 0 ([(0, .v (.slice 28 T28) []), (1, .f), (4, .v (.int .i64) []), (7, .v (.int .i64) []), (8, .v (.int .i64) [])], [(4, .v (.int .i64) [])]) .leaf .leaf) (.node 78 (.node 0 ([(0, .v (.slice 22 (.slice 28 T28)) []), (1, .f), (4, .v (.int .i64) []), (7, .v (.int .i64) []), (8, .v (.int .i64) [])], [(4, .v (.int .i64) [])]) .leaf .leaf) .leaf .leaf) .leaf) (.node 96 (.node 0 ([(0, .v (.slice 9 .str) []), (1, .v .str []), (4, .v (.int .i64) []), (7, .v (.int .i64) []), (8, .v (.int .i64) [])], [(4, .v (.int .i64) [])]) .leaf .leaf) (.node 90 (.node 0 ([(0, .v .str []), (1, .v (.int .u8) [])], [(0, .v .str [])]) .leaf .leaf) .leaf .leaf) .leaf))))
/-- What is asked of the functions whose contracts are proved by hand, on top of those below them. -/
class Dfr where
  d_step_Put : (List Nd) → Int → (List Nd) → Option (List Nd)
  d_move_ways : Option (List (Int × List (Int × Nat)))
  d_plot_Over : (List Nd) → Int → Option (List Int)
def step_Put_spec [Dfr] (x0 : List Nd) (x1 : Int) (x2 : List Nd) : Option (List Nd) := Dfr.d_step_Put x0 x1 x2
def frn10 [Dfr] : Tup (sg 10).args → Option (Tup (sg 10).res) := fun ⟨x0, x1, x2⟩ => step_Put_spec x0 x1 x2
def move_ways_spec [Dfr]  : Option (List (Int × List (Int × Nat))) := Dfr.d_move_ways
def frn26 [Dfr] : Tup (sg 26).args → Option (Tup (sg 26).res) := fun () => move_ways_spec 
def plot_Over_spec [Dfr] (x0 : List Nd) (x1 : Int) : Option (List Int) := Dfr.d_plot_Over x0 x1
def frn43 [Dfr] : Tup (sg 43).args → Option (Tup (sg 43).res) := fun ⟨x0, x1⟩ => plot_Over_spec x0 x1
def slices_Clone__api_Node_spec (x0 : List Nd) : Option (List Nd) := bif roomOk x0.length 32 then some x0 else none
def frn70 : Tup (sg 70).args → Option (Tup (sg 70).res) := fun x0 => slices_Clone__api_Node_spec x0
def strings_Trim_spec (x0 : ByteArray) (x1 : ByteArray) : Option (ByteArray) := trimSpec x0 x1
def frn87 : Tup (sg 87).args → Option (Tup (sg 87).res) := fun ⟨x0, x1⟩ => strings_Trim_spec x0 x1
def frT [Dfr] (f : Nat) : Option (Tup (sg f).args → Option (Tup (sg f).res)) := if h : f = 87 then some (by rw [h]; exact frn87) else if h : f = 70 then some (by rw [h]; exact frn70) else if h : f = 43 then some (by rw [h]; exact frn43) else if h : f = 26 then some (by rw [h]; exact frn26) else if h : f = 10 then some (by rw [h]; exact frn10) else none
def row_words : List ByteArray := [⟨#[115, 107, 105, 112]⟩, ⟨#[116, 104, 114, 111, 119]⟩, ⟨#[121, 105, 101, 108, 100]⟩, ⟨#[115, 107, 105, 112, 112]⟩, ⟨#[116, 104, 114, 111, 119, 119]⟩, ⟨#[121, 105, 101, 108, 100, 100]⟩]
def globT (g : Nat) : Option (TypeId × Ty × Nat) := bif Nat.beq g 0 then some (9, .str, 6) else none
def globV : (g : Nat) → (t : Ty) → List t.den := fun _ t => match t with | .str => row_words | _ => []
def rowsT (f : Nat) : Option (Bool × TypeId × Ty) := none
def revsT (f : Nat) : Option (TypeId × Ty) := if f = 77 then some (3, (.int .i64)) else none
noncomputable def E [Dfr] : Env := { fn := fnT.find, sig := sg, ti := tiT.find, shape := fun f b => (shapeT.find f).bind (·.find b), glob := globT, globV := globV, foreign := frT, rows := rowsT, revs := revsT }
abbrev law13_StepPuts_id : Nat := 3
abbrev law13_StepKinds_id : Nat := 4
abbrev law13_StepRefuses_id : Nat := 5
abbrev law13_StepLess_id : Nat := 6
abbrev law13_StepBeside_id : Nat := 7
abbrev law13_few_id : Nat := 8
abbrev law13_alive_id : Nat := 9
abbrev step_Put_id : Nat := 10
abbrev ref13_Put_id : Nat := 11
abbrev ref03_Same_id : Nat := 12
abbrev move_Enabled_id : Nat := 13
abbrev step_Next_id : Nat := 14
abbrev settle_Settled_id : Nat := 15
abbrev sort_On_id : Nat := 16
abbrev step_Refuse_id : Nat := 17
abbrev law13_StepLess_1_id : Nat := 18
abbrev row_Count_id : Nat := 19
abbrev move_Pick_id : Nat := 20
abbrev ref03_Two_id : Nat := 21
abbrev ref03_Depth_id : Nat := 22
abbrev law13_act_id : Nat := 23
abbrev row_Size_id : Nat := 24
abbrev ref03_Size_id : Nat := 25
abbrev move_ways_id : Nat := 26
abbrev doom_Active_id : Nat := 27
abbrev move_Is_id : Nat := 28
abbrev settle_Settle_id : Nat := 29
abbrev step_made_id : Nat := 30
abbrev row_Same_id : Nat := 31
abbrev sort_on_id : Nat := 32
abbrev sort_Of_id : Nat := 33
abbrev step_leaf_id : Nat := 34
abbrev slices_Contains__int_id : Nat := 35
abbrev ref03_One_id : Nat := 36
abbrev ref03_Walk_id : Nat := 37
abbrev row_Arity_id : Nat := 38
abbrev move_always_id : Nat := 39
abbrev doom_Free_id : Nat := 40
abbrev doom_Active_1_id : Nat := 41
abbrev slices_ContainsFunc__int_id : Nat := 42
abbrev plot_Over_id : Nat := 43
abbrev doom_Active_1_1_id : Nat := 44
abbrev doom_kid_id : Nat := 45
abbrev doom_goes_id : Nat := 46
abbrev slices_Contains__api_Move_id : Nat := 47
abbrev settle_settle_id : Nat := 48
abbrev row_Kids_id : Nat := 49
abbrev step_made_1_id : Nat := 50
abbrev row_Make_id : Nat := 51
abbrev slices_Equal__api_Node_id : Nat := 52
abbrev row_Whole_id : Nat := 53
abbrev sort_sort_id : Nat := 54
abbrev slices_Index__int_id : Nat := 55
abbrev ref03_Arity_id : Nat := 56
abbrev doom_beside_id : Nat := 57
abbrev slices_ContainsFunc__Sapi_Node_id : Nat := 58
abbrev doom_Doomed_id : Nat := 59
abbrev slices_IndexFunc__int_id : Nat := 60
abbrev slices_Index__api_Move_id : Nat := 62
abbrev settle_over_id : Nat := 63
abbrev settle_behind_id : Nat := 64
abbrev settle_stack_id : Nat := 65
abbrev settle_Ended_id : Nat := 66
abbrev settle_end_id : Nat := 67
abbrev settle_par_id : Nat := 68
abbrev settle_block_id : Nat := 69
abbrev slices_Clone__api_Node_id : Nat := 70
abbrev slices_Concat__api_Node_id : Nat := 71
abbrev row_Whole_1_id : Nat := 72
abbrev row_Right_id : Nat := 73
abbrev slices_ContainsFunc__api_Node_id : Nat := 74
abbrev sort_both_id : Nat := 75
abbrev sort_behind_id : Nat := 76
abbrev slices_IndexFunc__Sapi_Node_id : Nat := 78
abbrev doom_doomed_id : Nat := 79
abbrev plot_one_id : Nat := 81
abbrev sign_Both_id : Nat := 82
abbrev slices_Grow__api_Node_id : Nat := 83
abbrev row_named_id : Nat := 84
abbrev slices_IndexFunc__api_Node_id : Nat := 85
abbrev sign_Is_id : Nat := 86
abbrev strings_Trim_id : Nat := 87
abbrev slices_Contains__string_id : Nat := 88
abbrev strings_trimLeftByte_id : Nat := 89
abbrev strings_trimRightByte_id : Nat := 90
abbrev slices_Index__string_id : Nat := 96
end Go.Proofs.YtjogkjgpbeenfaaDoor.Sv
