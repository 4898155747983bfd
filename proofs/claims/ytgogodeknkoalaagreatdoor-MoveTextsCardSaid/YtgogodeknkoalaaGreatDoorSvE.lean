/- The tables of the seat's evaluator: types, signatures, functions, shapes of loops. Written by a program (emit3.py). -/
import Derived.Test.YtgogodeknkoalaaGreatDoorProg
import Derived.Test.YtgogodeknkoalaaGreatDoorEv6
namespace Go.Proofs.YtgogodeknkoalaaGreatDoor.Sv
open Go Go.Sv Go.Proofs
set_option linter.unusedVariables false
set_option maxRecDepth 100000
abbrev T8 : Ty := (.pair (.int .i64) (.pair (.int .i64) (.pair .bool (.int .u8))))
abbrev T14 : Ty := (.pair .str (.int .u64))
abbrev T29 : Ty := (.pair (.int .i64) (.int .i64))
abbrev T40 : Ty := (.pair (.int .i64) (.pair .str (.int .i64)))
abbrev T47 : Ty := (.pair (.int .i64) .fn)
abbrev T143 : Ty := (.pair (.int .u8) (.int .u8))
def tiT : Tree TI := (.node 41 ⟨.other, 1, 8, (some .fn), false⟩ (.node 13 ⟨(.struct [(0, 9), (1, 12)]), 2, 24, (some T14), false⟩ (.node 7 ⟨(.struct [(0, 2), (1, 3), (2, 4), (3, 6)]), 4, 24, (some T8), false⟩ (.node 4 ⟨.bool, 1, 1, (some .bool), false⟩ (.node 3 ⟨(.int .i64), 1, 8, (some (.int .i64)), false⟩ (.node 2 ⟨(.int .i64), 1, 8, (some (.int .i64)), false⟩ .leaf .leaf) .leaf) (.node 6 ⟨(.int .u8), 1, 1, (some (.int .u8)), false⟩ (.node 5 ⟨(.int .u8), 1, 1, (some (.int .u8)), false⟩ .leaf .leaf) .leaf)) (.node 10 ⟨.str, 1, 16, (some .str), false⟩ (.node 9 ⟨.str, 1, 16, (some .str), false⟩ (.node 8 ⟨(.struct [(0, 2), (1, 3), (2, 4), (3, 6)]), 4, 24, (some T8), false⟩ .leaf .leaf) .leaf) (.node 12 ⟨(.int .u64), 1, 8, (some (.int .u64)), false⟩ (.node 11 ⟨.str, 1, 16, (some .str), false⟩ .leaf .leaf) .leaf))) (.node 29 ⟨(.struct [(0, 3), (1, 3)]), 2, 16, (some T29), true⟩ (.node 22 ⟨(.slice 40), 1, 24, (some (.slice 40 T40)), false⟩ (.node 21 ⟨(.int .i32), 1, 4, (some (.int .i32)), false⟩ (.node 14 ⟨(.struct [(0, 9), (1, 12)]), 2, 24, (some T14), false⟩ .leaf .leaf) .leaf) (.node 28 ⟨(.struct [(0, 3), (1, 3)]), 2, 16, (some T29), false⟩ (.node 26 ⟨(.slice 29), 1, 24, (some (.slice 29 T29)), false⟩ .leaf .leaf) .leaf)) (.node 39 ⟨(.struct [(0, 3), (1, 9), (2, 3)]), 3, 32, (some T40), false⟩ (.node 37 ⟨(.slice 3), 1, 24, (some (.slice 3 (.int .i64))), false⟩ (.node 30 ⟨(.int .i64), 1, 8, (some (.int .i64)), false⟩ .leaf .leaf) .leaf) (.node 40 ⟨(.struct [(0, 3), (1, 9), (2, 3)]), 3, 32, (some T40), true⟩ .leaf .leaf)))) (.node 94 ⟨(.slice 5), 1, 24, (some (.slice 5 (.int .u8))), false⟩ (.node 57 ⟨(.slice 22), 1, 24, (some (.slice 22 (.slice 40 T40))), false⟩ (.node 46 ⟨(.struct [(0, 3), (1, 41)]), 2, 16, (some T47), false⟩ (.node 45 ⟨(.slice 47), 1, 24, (some (.slice 47 T47)), false⟩ (.node 43 ⟨(.map 3 45), 1, 8, none, false⟩ .leaf .leaf) .leaf) (.node 49 ⟨(.array 6 9), 6, 96, (some (.pair .str (.pair .str (.pair .str (.pair .str (.pair .str .str)))))), false⟩ (.node 47 ⟨(.struct [(0, 3), (1, 41)]), 2, 16, (some T47), false⟩ .leaf .leaf) .leaf)) (.node 88 ⟨(.struct [(0, 3), (1, 3)]), 2, 16, (some T29), false⟩ (.node 87 ⟨(.struct [(0, 3), (1, 3)]), 2, 16, (some T29), false⟩ (.node 84 ⟨(.slice 88), 1, 24, (some (.slice 88 T29)), false⟩ .leaf .leaf) .leaf) (.node 91 ⟨(.int .u64), 1, 8, (some (.int .u64)), false⟩ .leaf .leaf))) (.node 144 ⟨(.array 16 143), 32, 32, (some (.pair T143 (.pair T143 (.pair T143 (.pair T143 (.pair T143 (.pair T143 (.pair T143 (.pair T143 (.pair T143 (.pair T143 (.pair T143 (.pair T143 (.pair T143 (.pair T143 (.pair T143 T143)))))))))))))))), false⟩ (.node 127 ⟨(.slice 9), 1, 24, (some (.slice 9 .str)), false⟩ (.node 110 ⟨(.int .u64), 1, 8, (some (.int .u64)), false⟩ (.node 108 ⟨(.int .u32), 1, 4, (some (.int .u32)), false⟩ .leaf .leaf) .leaf) (.node 143 ⟨(.struct [(0, 5), (1, 5)]), 2, 2, (some T143), false⟩ (.node 142 ⟨(.struct [(0, 5), (1, 5)]), 2, 2, (some T143), false⟩ .leaf .leaf) .leaf)) (.node 159 ⟨(.int .i32), 1, 4, (some (.int .i32)), false⟩ (.node 156 ⟨(.int .u8), 1, 1, (some (.int .u8)), false⟩ (.node 155 ⟨(.int .u8), 1, 1, (some (.int .u8)), false⟩ .leaf .leaf) .leaf) (.node 160 ⟨(.int .i32), 1, 4, (some (.int .i32)), false⟩ .leaf .leaf)))))
def sigT : Tree Sig := (.node 63 ⟨[.v (.slice 40 T40) []], [.v .bool []], false⟩ (.node 32 ⟨[.v (.slice 40 T40) [], .v (.int .i64) []], [.v (.slice 3 (.int .i64)) [0]], false⟩ (.node 17 ⟨[.v T29 []], [.v .str []], false⟩ (.node 10 ⟨[.v (.slice 29 T29) [], .v (.slice 29 T29) []], [.v .bool []], false⟩ (.node 6 ⟨[.v (.slice 40 T40) []], [.v .bool []], false⟩ (.node 4 ⟨[.v (.slice 40 T40) [], .v (.int .i64) [], .v T29 []], [.v .bool []], false⟩ (.node 3 ⟨[.v (.slice 40 T40) []], [.v .bool []], false⟩ .leaf .leaf) (.node 5 ⟨[.v T29 []], [.v .bool []], false⟩ .leaf .leaf)) (.node 8 ⟨[.v (.slice 40 T40) []], [.v .bool []], false⟩ (.node 7 ⟨[.v (.slice 40 T40) []], [.v .bool []], false⟩ .leaf .leaf) (.node 9 ⟨[], [.v .bool []], false⟩ .leaf .leaf))) (.node 14 ⟨[.v (.slice 40 T40) [], .v (.int .i64) []], [.v T29 [], .v (.int .i64) []], false⟩ (.node 12 ⟨[.v (.slice 40 T40) []], [.v (.slice 29 T29) []], false⟩ (.node 11 ⟨[.v (.slice 40 T40) []], [.v (.slice 29 T29) []], false⟩ .leaf .leaf) (.node 13 ⟨[.v (.slice 40 T40) [], .v (.int .i64) []], [.v T29 [], .v (.int .i64) []], false⟩ .leaf .leaf)) (.node 16 ⟨[.v (.slice 40 T40) [], .v T29 []], [.v .bool []], false⟩ (.node 15 ⟨[.v (.slice 40 T40) [], .v T29 []], [.v .bool []], false⟩ .leaf .leaf) .leaf))) (.node 24 ⟨[.v (.slice 40 T40) [], .v (.int .i64) []], [.v .bool []], false⟩ (.node 21 ⟨[.v (.slice 40 T40) []], [.v (.int .i64) []], false⟩ (.node 19 ⟨[.v (.slice 40 T40) []], [.v (.slice 3 (.int .i64)) []], false⟩ (.node 18 ⟨[.v T29 []], [.v .str []], false⟩ .leaf .leaf) (.node 20 ⟨[.v (.slice 40 T40) [], .v (.int .i64) []], [.v .bool []], false⟩ .leaf .leaf)) (.node 23 ⟨[.v (.slice 40 T40) []], [.v (.slice 3 (.int .i64)) []], false⟩ (.node 22 ⟨[], [.p (.slice 4611686018427387905 (.pair (.int .i64) (.slice 47 T47)))], false⟩ .leaf .leaf) .leaf)) (.node 29 ⟨[.v (.slice 40 T40) []], [.v .bool []], false⟩ (.node 27 ⟨[.v (.int .i64) []], [.v .str []], false⟩ (.node 25 ⟨[.v (.slice 29 T29) [], .v T29 []], [.v .bool []], false⟩ .leaf .leaf) (.node 28 ⟨[.v (.int .i64) []], [.v .str []], false⟩ .leaf .leaf)) (.node 31 ⟨[.v (.slice 3 (.int .i64)) [], .f], [.v .bool []], false⟩ (.node 30 ⟨[.v (.int .i64) [], .p (.slice 40 T40)], [.v .bool []], false⟩ .leaf .leaf) .leaf)))) (.node 47 ⟨[.v (.slice 29 T29) [], .v T29 []], [.v (.int .i64) []], false⟩ (.node 40 ⟨[.v (.slice 40 T40) [], .v (.int .i64) []], [.v (.int .i64) [], .v (.int .i64) []], false⟩ (.node 36 ⟨[.v (.slice 40 T40) [], .v (.slice 3 (.int .i64)) []], [.v (.int .i64) []], false⟩ (.node 34 ⟨[.v (.slice 40 T40) [], .v (.int .i64) [], .v (.int .i64) []], [.v (.int .i64) []], false⟩ (.node 33 ⟨[.v (.int .i64) [], .p (.slice 40 T40), .p (.int .i64)], [.v .bool []], false⟩ .leaf .leaf) (.node 35 ⟨[.v T40 []], [.v (.int .i64) []], false⟩ .leaf .leaf)) (.node 38 ⟨[.v (.slice 22 (.slice 40 T40)) [], .f], [.v .bool []], false⟩ (.node 37 ⟨[.v (.slice 40 T40) [], .v (.int .i64) []], [.v (.slice 22 (.slice 40 T40)) [], .v .bool []], false⟩ .leaf .leaf) (.node 39 ⟨[.v (.slice 40 T40) []], [.v .bool []], false⟩ .leaf .leaf))) (.node 44 ⟨[.v (.slice 3 (.int .i64)) [], .v (.int .i64) []], [.v .bool []], false⟩ (.node 42 ⟨[.v (.slice 40 T40) []], [.v .bool []], false⟩ (.node 41 ⟨[.v (.slice 40 T40) [], .v (.int .i64) []], [.v .bool []], false⟩ .leaf .leaf) (.node 43 ⟨[.v (.slice 40 T40) [], .v (.int .i64) []], [.v (.slice 3 (.int .i64)) []], false⟩ .leaf .leaf)) (.node 46 ⟨[.v (.slice 40 T40) []], [.v .bool []], false⟩ (.node 45 ⟨[.v (.slice 40 T40) [], .v (.int .i64) [], .v (.int .i64) []], [.v (.slice 22 (.slice 40 T40)) [0], .v .bool []], false⟩ .leaf .leaf) .leaf))) (.node 56 ⟨[.v (.slice 22 (.slice 40 T40)) [], .f], [.v (.int .i64) []], false⟩ (.node 53 ⟨[.v (.slice 40 T40) []], [.v (.slice 22 (.slice 40 T40)) [0]], false⟩ (.node 50 ⟨[.v (.slice 40 T40) []], [.v (.slice 40 T40) []], false⟩ (.node 49 ⟨[.v (.slice 40 T40) [], .v (.slice 40 T40) []], [.v .bool []], false⟩ .leaf .leaf) (.node 51 ⟨[.v (.slice 3 (.int .i64)) [], .f], [.v (.int .i64) []], false⟩ .leaf .leaf)) (.node 55 ⟨[], [], true⟩ (.node 54 ⟨[.v (.slice 3 (.int .i64)) [], .v (.int .i64) []], [.v .bool []], false⟩ .leaf .leaf) .leaf)) (.node 60 ⟨[.v (.slice 40 T40) []], [.v (.slice 40 T40) []], false⟩ (.node 58 ⟨[.v (.int .i64) []], [.v (.int .i64) []], false⟩ (.node 57 ⟨[.v (.slice 40 T40) []], [.v .bool []], false⟩ .leaf .leaf) (.node 59 ⟨[.v (.slice 40 T40) [], .v (.slice 40 T40) []], [.v .bool []], false⟩ .leaf .leaf)) (.node 62 ⟨[.v (.int .i64) [], .v (.int .i64) []], [.v .bool []], false⟩ (.node 61 ⟨[.v (.slice 40 T40) []], [.v (.slice 22 (.slice 40 T40)) []], false⟩ .leaf .leaf) .leaf))))) (.node 103 ⟨[.v (.slice 40 T40) []], [.v (.int .i64) []], false⟩ (.node 84 ⟨[.v T40 [], .v (.slice 40 T40) [], .v (.slice 40 T40) [], .v (.int .i64) []], [.v (.slice 40 T40) []], false⟩ (.node 73 ⟨[.v (.slice 3 (.int .i64)) [], .v (.int .i64) []], [.v (.int .i64) []], false⟩ (.node 69 ⟨[.v (.slice 40 T40) []], [.v .bool []], false⟩ (.node 66 ⟨[.v (.slice 40 T40) [], .v .bool []], [.v .bool []], false⟩ (.node 65 ⟨[.v (.slice 40 T40) [], .v (.slice 40 T40) []], [.v .bool []], false⟩ .leaf .leaf) (.node 67 ⟨[.v (.slice 40 T40) []], [.v (.slice 40 T40) []], false⟩ .leaf .leaf)) (.node 71 ⟨[.v (.slice 40 T40) []], [.v (.int .i64) []], false⟩ (.node 70 ⟨[.v (.int .i64) []], [.v (.int .i64) []], false⟩ .leaf .leaf) (.node 72 ⟨[.v (.slice 40 T40) []], [.v (.slice 40 T40) [0]], false⟩ .leaf .leaf))) (.node 81 ⟨[.v (.int .i64) []], [.v (.int .i64) []], false⟩ (.node 75 ⟨[.v (.slice 40 T40) []], [.v (.slice 40 T40) []], false⟩ (.node 74 ⟨[.v (.slice 40 T40) []], [.v (.int .i64) []], false⟩ .leaf .leaf) (.node 76 ⟨[.v (.slice 40 T40) []], [.v (.int .i64) []], false⟩ .leaf .leaf)) (.node 83 ⟨[.v (.int .i64) []], [.v (.slice 40 T40) []], false⟩ (.node 82 ⟨[.v (.slice 40 T40) []], [.v (.int .i64) []], false⟩ .leaf .leaf) .leaf))) (.node 91 ⟨[.v (.slice 40 T40) []], [.v .bool []], false⟩ (.node 88 ⟨[.v (.int .i64) [], .v (.slice 40 T40) []], [.v (.slice 40 T40) []], false⟩ (.node 86 ⟨[.v (.slice 40 T40) []], [.v (.int .i64) [], .v .bool []], false⟩ (.node 85 ⟨[.v (.slice 40 T40) [], .v (.slice 40 T40) []], [.v (.slice 40 T40) []], false⟩ .leaf .leaf) (.node 87 ⟨[.v T40 [], .v (.slice 22 (.slice 40 T40)) []], [.v (.slice 40 T40) []], false⟩ .leaf .leaf)) (.node 90 ⟨[.v T40 [], .v (.slice 40 T40) []], [.v (.slice 40 T40) []], false⟩ (.node 89 ⟨[.v T40 [], .v (.slice 40 T40) [], .v (.slice 40 T40) []], [.v (.slice 40 T40) []], false⟩ .leaf .leaf) .leaf)) (.node 95 ⟨[.v (.slice 40 T40) [], .v (.slice 40 T40) []], [.v (.slice 40 T40) []], false⟩ (.node 93 ⟨[.v (.int .i64) []], [.v (.slice 40 T40) []], false⟩ (.node 92 ⟨[.v (.slice 40 T40) [], .v (.int .i64) []], [.v .bool []], false⟩ .leaf .leaf) (.node 94 ⟨[.v (.int .i64) [], .v (.slice 40 T40) [], .v (.slice 40 T40) []], [.v (.slice 40 T40) []], false⟩ .leaf .leaf)) (.node 102 ⟨[.v (.slice 40 T40) []], [.v .bool []], false⟩ (.node 96 ⟨[.v (.slice 40 T40) []], [.v (.slice 40 T40) []], false⟩ .leaf .leaf) .leaf)))) (.node 120 ⟨[.v (.slice 40 T40) [], .f], [.v .bool []], false⟩ (.node 111 ⟨[.v (.int .i64) [], .v (.int .i64) []], [.v T40 []], false⟩ (.node 107 ⟨[.v (.slice 40 T40) [], .v (.slice 22 (.slice 40 T40)) []], [.v .bool []], false⟩ (.node 105 ⟨[.v (.int .i64) [], .v (.int .i64) []], [.v (.int .i64) []], false⟩ (.node 104 ⟨[.v (.slice 22 (.slice 40 T40)) []], [.v (.slice 40 T40) [0]], false⟩ .leaf .leaf) (.node 106 ⟨[.v T40 []], [.v .bool []], false⟩ .leaf .leaf)) (.node 109 ⟨[.v (.slice 40 T40) [], .v (.slice 22 (.slice 40 T40)) []], [.v .bool []], false⟩ (.node 108 ⟨[.v (.slice 40 T40) [], .v (.slice 22 (.slice 40 T40)) []], [.v .bool []], false⟩ .leaf .leaf) (.node 110 ⟨[.v (.slice 40 T40) [], .v (.slice 22 (.slice 40 T40)) []], [.v .bool []], false⟩ .leaf .leaf))) (.node 115 ⟨[.v T40 [], .v (.slice 40 T40) []], [.v (.slice 40 T40) [0]], false⟩ (.node 113 ⟨[.v T40 [], .v (.slice 40 T40) [], .v (.slice 40 T40) []], [.v (.slice 40 T40) []], false⟩ (.node 112 ⟨[.v (.int .i64) [], .v (.slice 40 T40) []], [.v (.slice 40 T40) []], false⟩ .leaf .leaf) (.node 114 ⟨[.v (.int .i64) [], .v (.int .i64) []], [.v (.int .i64) []], false⟩ .leaf .leaf)) (.node 119 ⟨[.v T40 []], [.v .bool []], false⟩ (.node 118 ⟨[.v T40 []], [.v .bool []], false⟩ .leaf .leaf) .leaf))) (.node 127 ⟨[.v .str []], [.v .bool []], false⟩ (.node 124 ⟨[.v (.int .i64) []], [.v .bool []], false⟩ (.node 122 ⟨[.v (.int .i64) [], .v (.int .i64) [], .v (.int .i64) []], [.v (.int .i64) []], false⟩ (.node 121 ⟨[.v (.int .i64) [], .v (.int .i64) []], [.v (.int .i64) []], false⟩ .leaf .leaf) (.node 123 ⟨[.n 40 T40, .v (.int .i64) []], [.v (.slice 40 T40) [0]], false⟩ .leaf .leaf)) (.node 126 ⟨[.v (.int .i64) []], [.v .bool []], false⟩ (.node 125 ⟨[.v .str []], [.v .bool []], false⟩ .leaf .leaf) .leaf)) (.node 131 ⟨[.v .str [], .v (.int .u8) []], [.v .str []], false⟩ (.node 129 ⟨[.v .str [], .v .str []], [.v .str []], false⟩ (.node 128 ⟨[.v (.slice 40 T40) [], .f], [.v (.int .i64) []], false⟩ .leaf .leaf) (.node 130 ⟨[.v (.slice 9 .str) [], .v .str []], [.v .bool []], false⟩ .leaf .leaf)) (.node 138 ⟨[.v (.slice 9 .str) [], .v .str []], [.v (.int .i64) []], false⟩ (.node 132 ⟨[.v .str [], .v (.int .u8) []], [.v .str []], false⟩ .leaf .leaf) .leaf))))))
abbrev sg (f : Nat) : Sig := (sigT.find f).getD ⟨[], [], false⟩
noncomputable def fnT : Tree Func := (.node 65 Tryz.f65 (.node 34 Tryz.f34 (.node 16 Tryz.f16 (.node 9 Tryz.f9 (.node 6 Tryz.f6 (.node 4 Tryz.f4 (.node 3 Tryz.f3 .leaf .leaf) (.node 5 Tryz.f5 .leaf .leaf)) (.node 8 Tryz.f8 (.node 7 Tryz.f7 .leaf .leaf) .leaf)) (.node 13 Tryz.f13 (.node 11 Tryz.f11 (.node 10 Tryz.f10 .leaf .leaf) (.node 12 Tryz.f12 .leaf .leaf)) (.node 15 Tryz.f15 (.node 14 Tryz.f14 .leaf .leaf) .leaf))) (.node 25 Tryz.f25 (.node 21 Tryz.f21 (.node 19 Tryz.f19 (.node 18 Tryz.f18 .leaf .leaf) (.node 20 Tryz.f20 .leaf .leaf)) (.node 24 Tryz.f24 (.node 23 Tryz.f23 .leaf .leaf) .leaf)) (.node 30 Tryz.f30 (.node 28 Tryz.f28 (.node 27 Tryz.f27 .leaf .leaf) (.node 29 Tryz.f29 .leaf .leaf)) (.node 33 Tryz.f33 (.node 31 Tryz.f31 .leaf .leaf) .leaf)))) (.node 49 Tryz.f49 (.node 41 Tryz.f41 (.node 38 Tryz.f38 (.node 36 Tryz.f36 (.node 35 Tryz.f35 .leaf .leaf) (.node 37 Tryz.f37 .leaf .leaf)) (.node 40 Tryz.f40 (.node 39 Tryz.f39 .leaf .leaf) .leaf)) (.node 45 Tryz.f45 (.node 43 Tryz.f43 (.node 42 Tryz.f42 .leaf .leaf) (.node 44 Tryz.f44 .leaf .leaf)) (.node 47 Tryz.f47 (.node 46 Tryz.f46 .leaf .leaf) .leaf))) (.node 58 Tryz.f58 (.node 54 Tryz.f54 (.node 51 Tryz.f51 (.node 50 Tryz.f50 .leaf .leaf) (.node 53 Tryz.f53 .leaf .leaf)) (.node 57 Tryz.f57 (.node 56 Tryz.f56 .leaf .leaf) .leaf)) (.node 61 Tryz.f61 (.node 60 Tryz.f60 (.node 59 Tryz.f59 .leaf .leaf) .leaf) (.node 63 Tryz.f63 (.node 62 Tryz.f62 .leaf .leaf) .leaf))))) (.node 104 Tryz.f104 (.node 85 Tryz.f85 (.node 74 Tryz.f74 (.node 70 Tryz.f70 (.node 67 Tryz.f67 (.node 66 Tryz.f66 .leaf .leaf) (.node 69 Tryz.f69 .leaf .leaf)) (.node 73 Tryz.f73 (.node 71 Tryz.f71 .leaf .leaf) .leaf)) (.node 82 Tryz.f82 (.node 76 Tryz.f76 (.node 75 Tryz.f75 .leaf .leaf) (.node 81 Tryz.f81 .leaf .leaf)) (.node 84 Tryz.f84 (.node 83 Tryz.f83 .leaf .leaf) .leaf))) (.node 92 Tryz.f92 (.node 89 Tryz.f89 (.node 87 Tryz.f87 (.node 86 Tryz.f86 .leaf .leaf) (.node 88 Tryz.f88 .leaf .leaf)) (.node 91 Tryz.f91 (.node 90 Tryz.f90 .leaf .leaf) .leaf)) (.node 96 Tryz.f96 (.node 94 Tryz.f94 (.node 93 Tryz.f93 .leaf .leaf) (.node 95 Tryz.f95 .leaf .leaf)) (.node 103 Tryz.f103 (.node 102 Tryz.f102 .leaf .leaf) .leaf)))) (.node 120 Tryz.f120 (.node 111 Tryz.f111 (.node 108 Tryz.f108 (.node 106 Tryz.f106 (.node 105 Tryz.f105 .leaf .leaf) (.node 107 Tryz.f107 .leaf .leaf)) (.node 110 Tryz.f110 (.node 109 Tryz.f109 .leaf .leaf) .leaf)) (.node 115 Tryz.f115 (.node 113 Tryz.f113 (.node 112 Tryz.f112 .leaf .leaf) (.node 114 Tryz.f114 .leaf .leaf)) (.node 119 Tryz.f119 (.node 118 Tryz.f118 .leaf .leaf) .leaf))) (.node 127 Tryz.f127 (.node 124 Tryz.f124 (.node 122 Tryz.f122 (.node 121 Tryz.f121 .leaf .leaf) (.node 123 Tryz.f123 .leaf .leaf)) (.node 126 Tryz.f126 (.node 125 Tryz.f125 .leaf .leaf) .leaf)) (.node 131 Tryz.f131 (.node 130 Tryz.f130 (.node 128 Tryz.f128 .leaf .leaf) .leaf) (.node 138 Tryz.f138 (.node 132 Tryz.f132 .leaf .leaf) .leaf))))))
def shapeT : Tree (Tree (Shape × Shape)) := (.node 51 (.node 0 ([(0, .v (.slice 3 (.int .i64)) []), (1, .f), (4, .v (.int .i64) []), (7, .v (.int .i64) []), (8, .v (.int .i64) [])], [(4, .v (.int .i64) [])]) .leaf .leaf) (.node 28 (.node 0 ([(0, .v (.int .i64) []), (2, .v .str []), (3, .v .str []), (4, .v .str []), (5, .v .str [])], [(2, .v .str [])]) .leaf .leaf) (.node 12 (.node 0 ([(0, .v (.slice 40 T40) []), (3, .v (.slice 29 T29) [0]), (4, .v (.slice 3 (.int .i64)) []), (5, .v (.int .i64) [])], [(3, .v (.slice 29 T29) [0])]) .leaf .leaf) (.node 10 (.node 0 ([(0, .v (.slice 29 T29) []), (1, .v (.slice 29 T29) []), (4, .v .bool []), (5, .v (.int .i64) [])], [(4, .v .bool [])]) .leaf .leaf) (.node 7 (.node 2 ([(0, .v (.slice 40 T40) []), (2, .v .bool []), (3, .v (.slice 29 T29) []), (5, .v (.int .i64) []), (65, .v (.slice 3 (.int .i64)) []), (66, .v (.int .i64) []), (67, .v (.int .i64) [])], [(2, .v .bool []), (3, .v (.slice 29 T29) []), (5, .v (.int .i64) [])]) (.node 0 ([(0, .v (.slice 40 T40) []), (2, .v .bool []), (3, .v (.slice 29 T29) []), (15, .v (.int .i64) []), (16, .v (.int .i64) [])], [(0, .v (.slice 40 T40) []), (2, .v .bool []), (3, .v (.slice 29 T29) [])]) .leaf .leaf) .leaf) (.node 6 (.node 0 ([(0, .v (.slice 40 T40) []), (2, .v .bool []), (3, .v (.slice 29 T29) []), (18, .v (.slice 29 T29) []), (19, .v (.int .i64) []), (20, .v (.int .i64) [])], [(2, .v .bool [])]) .leaf .leaf) .leaf .leaf) .leaf) (.node 11 (.node 2 ([(0, .v (.slice 40 T40) []), (3, .p (.slice 4611686018427387905 (.pair (.int .i64) (.slice 47 T47)))), (4, .v (.slice 29 T29) [0]), (6, .v (.int .i64) []), (11, .v (.slice 3 (.int .i64)) []), (12, .v (.int .i64) []), (13, .v (.int .i64) []), (23, .v (.slice 47 T47) []), (24, .v (.int .i64) []), (25, .v (.int .i64) [])], [(0, .v (.slice 40 T40) []), (3, .p (.slice 4611686018427387905 (.pair (.int .i64) (.slice 47 T47)))), (4, .v (.slice 29 T29) [0]), (11, .v (.slice 3 (.int .i64)) []), (12, .v (.int .i64) []), (13, .v (.int .i64) [])]) (.node 0 ([(0, .v (.slice 40 T40) []), (3, .p (.slice 4611686018427387905 (.pair (.int .i64) (.slice 47 T47)))), (4, .v (.slice 29 T29) [0]), (11, .v (.slice 3 (.int .i64)) []), (12, .v (.int .i64) []), (13, .v (.int .i64) [])], [(4, .v (.slice 29 T29) [0])]) .leaf .leaf) .leaf) .leaf .leaf)) (.node 19 (.node 0 ([(1, .p (.slice 40 T40)), (3, .f), (4, .v (.slice 3 (.int .i64)) [0]), (11, .v (.int .i64) []), (12, .v (.int .i64) [])], [(4, .v (.slice 3 (.int .i64)) [0])]) .leaf .leaf) (.node 16 (.node 0 ([(3, .b T29 29 []), (4, .v .bool []), (5, .v (.slice 29 T29) []), (6, .v (.int .i64) [])], [(4, .v .bool [])]) .leaf .leaf) .leaf .leaf) (.node 24 (.node 0 ([(5, .v (.slice 22 (.slice 40 T40)) [0]), (7, .v .bool []), (8, .v (.int .i64) [])], [(7, .v .bool [])]) .leaf .leaf) .leaf .leaf))) (.node 43 (.node 0 ([(5, .v (.slice 3 (.int .i64)) [0]), (6, .v (.int .i64) []), (7, .v (.slice 22 (.slice 40 T40)) []), (8, .v (.int .i64) []), (9, .v (.int .i64) [])], [(5, .v (.slice 3 (.int .i64)) [0])]) .leaf .leaf) (.node 37 (.node 0 ([(0, .v (.slice 40 T40) []), (1, .v (.int .i64) []), (4, .v (.slice 22 (.slice 40 T40)) [0]), (5, .v .bool []), (19, .v (.slice 3 (.int .i64)) [0]), (20, .v (.int .i64) []), (21, .v (.int .i64) [])], [(4, .v (.slice 22 (.slice 40 T40)) [0]), (5, .v .bool [])]) .leaf .leaf) (.node 36 (.node 0 ([(1, .v (.slice 3 (.int .i64)) []), (5, .v (.int .i64) []), (8, .v (.slice 40 T40) []), (9, .v (.int .i64) []), (10, .v (.int .i64) [])], [(5, .v (.int .i64) [])]) .leaf .leaf) (.node 34 (.node 0 ([(2, .v (.int .i64) []), (6, .v (.int .i64) []), (16, .v (.slice 22 (.slice 40 T40)) [0]), (17, .v (.int .i64) []), (18, .v (.int .i64) [])], [(6, .v (.int .i64) [])]) .leaf .leaf) .leaf .leaf) .leaf) (.node 40 (.node 0 ([(0, .v (.slice 40 T40) []), (1, .v (.int .i64) []), (4, .v (.int .i64) []), (5, .v (.int .i64) []), (6, .v (.int .i64) []), (7, .v (.int .i64) []), (8, .v (.int .i64) [])], [(4, .v (.int .i64) []), (5, .v (.int .i64) []), (6, .v (.int .i64) []), (7, .v (.int .i64) [])]) .leaf .leaf) .leaf .leaf)) (.node 45 (.node 0 ([(0, .v (.slice 40 T40) []), (2, .v (.int .i64) []), (8, .v (.slice 22 (.slice 40 T40)) []), (9, .v (.int .i64) []), (10, .v (.int .i64) [])], [(0, .v (.slice 40 T40) []), (2, .v (.int .i64) []), (8, .v (.slice 22 (.slice 40 T40)) []), (9, .v (.int .i64) []), (10, .v (.int .i64) [])]) .leaf .leaf) (.node 44 (.node 0 ([(0, .v (.slice 3 (.int .i64)) []), (1, .v (.int .i64) []), (4, .v .bool []), (5, .v (.int .i64) [])], [(4, .v .bool [])]) .leaf .leaf) .leaf .leaf) (.node 47 (.node 0 ([(0, .v (.slice 29 T29) []), (3, .b T29 29 []), (4, .v (.int .i64) []), (7, .v (.int .i64) []), (8, .v (.int .i64) [])], [(4, .v (.int .i64) [])]) .leaf .leaf) .leaf .leaf)))) (.node 91 (.node 0 ([(0, .v (.slice 40 T40) []), (2, .v .bool []), (3, .v (.int .i64) [])], [(0, .v (.slice 40 T40) []), (2, .v .bool [])]) .leaf .leaf) (.node 65 (.node 0 ([(0, .v (.slice 40 T40) []), (1, .v (.slice 40 T40) []), (4, .v .bool []), (12, .v (.int .i64) []), (13, .v (.int .i64) [])], [(4, .v .bool [])]) .leaf .leaf) (.node 59 (.node 0 ([(0, .v (.slice 40 T40) []), (1, .v (.slice 40 T40) []), (4, .v .bool []), (5, .v (.int .i64) [])], [(4, .v .bool [])]) .leaf .leaf) (.node 56 (.node 0 ([(0, .v (.slice 22 (.slice 40 T40)) []), (1, .f), (4, .v (.int .i64) []), (7, .v (.int .i64) []), (8, .v (.int .i64) [])], [(4, .v (.int .i64) [])]) .leaf .leaf) (.node 53 (.node 0 ([(0, .v (.slice 40 T40) []), (3, .v (.slice 22 (.slice 40 T40)) [0]), (4, .v (.int .i64) []), (13, .v (.int .i64) []), (14, .v (.int .i64) [])], [(3, .v (.slice 22 (.slice 40 T40)) [0])]) .leaf .leaf) .leaf .leaf) .leaf) (.node 61 (.node 0 ([(0, .v (.slice 40 T40) []), (3, .v (.slice 22 (.slice 40 T40)) [0]), (4, .v (.int .i64) []), (5, .v (.int .i64) [])], [(3, .v (.slice 22 (.slice 40 T40)) [0])]) .leaf .leaf) .leaf .leaf)) (.node 73 (.node 0 ([(0, .v (.slice 3 (.int .i64)) []), (1, .v (.int .i64) []), (4, .v (.int .i64) []), (7, .v (.int .i64) []), (8, .v (.int .i64) [])], [(4, .v (.int .i64) [])]) .leaf .leaf) (.node 71 (.node 0 ([(2, .v (.int .i64) []), (3, .v (.int .i64) []), (7, .v (.slice 40 T40) []), (8, .v (.int .i64) []), (9, .v (.int .i64) [])], [(2, .v (.int .i64) [])]) .leaf .leaf) .leaf .leaf) (.node 74 (.node 0 ([(0, .v (.slice 40 T40) []), (2, .v (.int .i64) []), (3, .v (.int .i64) [])], [(2, .v (.int .i64) [])]) .leaf .leaf) .leaf .leaf))) (.node 128 (.node 0 ([(0, .v (.slice 40 T40) []), (1, .f), (4, .v (.int .i64) []), (7, .v (.int .i64) []), (8, .v (.int .i64) [])], [(4, .v (.int .i64) [])]) .leaf .leaf) (.node 104 (.node 2 ([(6, .v (.slice 40 T40) [0]), (25, .v (.slice 22 (.slice 40 T40)) []), (26, .v (.int .i64) []), (27, .v (.int .i64) [])], [(6, .v (.slice 40 T40) [0])]) (.node 0 ([(0, .v (.slice 22 (.slice 40 T40)) []), (3, .v (.int .i64) []), (9, .v (.slice 22 (.slice 40 T40)) []), (10, .v (.int .i64) []), (11, .v (.int .i64) [])], [(0, .v (.slice 22 (.slice 40 T40)) []), (3, .v (.int .i64) [])]) .leaf .leaf) .leaf) (.node 103 (.node 0 ([(0, .v (.slice 40 T40) []), (2, .v (.int .i64) []), (3, .v (.slice 3 (.int .i64)) [0]), (8, .v (.slice 22 (.slice 40 T40)) [0]), (9, .v (.int .i64) []), (10, .v (.int .i64) [])], [(0, .v (.slice 40 T40) []), (2, .v (.int .i64) []), (3, .v (.slice 3 (.int .i64)) [0])]) .leaf .leaf) .leaf .leaf) (.node 106 (.node 0 ([(1, .b T40 40 []), (2, .v .bool []), (3, .v (.int .i64) [])], [(1, .b T40 40 []), (2, .v .bool [])]) .leaf .leaf) .leaf .leaf)) (.node 132 (.node 0 ([(0, .v .str []), (1, .v (.int .u8) [])], [(0, .v .str [])]) .leaf .leaf) (.node 131 (.node 0 ([(0, .v .str []), (1, .v (.int .u8) [])], [(0, .v .str [])]) .leaf .leaf) .leaf .leaf) (.node 138 (.node 0 ([(0, .v (.slice 9 .str) []), (1, .v .str []), (4, .v (.int .i64) []), (7, .v (.int .i64) []), (8, .v (.int .i64) [])], [(4, .v (.int .i64) [])]) .leaf .leaf) .leaf .leaf)))))
/-- What is asked of the functions whose contracts are proved by hand, on top of those below them. -/
class Dfr where
  d_move_Text : Mv → Option (ByteArray)
  d_move_ways : Option (List (Int × List (Int × Nat)))
  d_plot_Over : (List Nd) → Int → Option (List Int)
def move_Text_spec [Dfr] (x0 : Mv) : Option (ByteArray) := Dfr.d_move_Text x0
def frn17 [Dfr] : Tup (sg 17).args → Option (Tup (sg 17).res) := fun x0 => move_Text_spec x0
def move_ways_spec [Dfr]  : Option (List (Int × List (Int × Nat))) := Dfr.d_move_ways
def frn22 [Dfr] : Tup (sg 22).args → Option (Tup (sg 22).res) := fun () => move_ways_spec 
def plot_Over_spec [Dfr] (x0 : List Nd) (x1 : Int) : Option (List Int) := Dfr.d_plot_Over x0 x1
def frn32 [Dfr] : Tup (sg 32).args → Option (Tup (sg 32).res) := fun ⟨x0, x1⟩ => plot_Over_spec x0 x1
def slices_Clone__api_Node_spec (x0 : List Nd) : Option (List Nd) := bif roomOk x0.length 32 then some x0 else none
def frn72 : Tup (sg 72).args → Option (Tup (sg 72).res) := fun x0 => slices_Clone__api_Node_spec x0
def strings_Trim_spec (x0 : ByteArray) (x1 : ByteArray) : Option (ByteArray) := trimSpec x0 x1
def frn129 : Tup (sg 129).args → Option (Tup (sg 129).res) := fun ⟨x0, x1⟩ => strings_Trim_spec x0 x1
def frT [Dfr] (f : Nat) : Option (Tup (sg f).args → Option (Tup (sg f).res)) := if h : f = 129 then some (by rw [h]; exact frn129) else if h : f = 72 then some (by rw [h]; exact frn72) else if h : f = 32 then some (by rw [h]; exact frn32) else if h : f = 22 then some (by rw [h]; exact frn22) else if h : f = 17 then some (by rw [h]; exact frn17) else none
def row_words : List ByteArray := [⟨#[115, 107, 105, 112]⟩, ⟨#[116, 104, 114, 111, 119]⟩, ⟨#[121, 105, 101, 108, 100]⟩, ⟨#[115, 107, 105, 112, 112]⟩, ⟨#[116, 104, 114, 111, 119, 119]⟩, ⟨#[121, 105, 101, 108, 100, 100]⟩]
def globT (g : Nat) : Option (TypeId × Ty × Nat) := bif Nat.beq g 3 then some (9, .str, 6) else none
def globV : (g : Nat) → (t : Ty) → List t.den := fun _ t => match t with | .str => row_words | _ => []
def pow10V : List Value := [.int .u64 1, .int .u64 10, .int .u64 100, .int .u64 1000, .int .u64 10000, .int .u64 100000, .int .u64 1000000, .int .u64 10000000, .int .u64 100000000, .int .u64 1000000000, .int .u64 10000000000, .int .u64 100000000000, .int .u64 1000000000000, .int .u64 10000000000000, .int .u64 100000000000000, .int .u64 1000000000000000, .int .u64 10000000000000000, .int .u64 100000000000000000, .int .u64 1000000000000000000, .int .u64 10000000000000000000]
def tabT (g : Nat) : Option (List Value) := bif Nat.beq g 0 then some pow10V else none
def rowsT (f : Nat) : Option (Bool × TypeId × Ty) := none
def revsT (f : Nat) : Option (TypeId × Ty) := if f = 55 then some (3, (.int .i64)) else none
noncomputable def E [Dfr] : Env := { fn := fnT.find, sig := sg, ti := tiT.find, shape := fun f b => (shapeT.find f).bind (·.find b), glob := globT, globV := globV, foreign := frT, rows := rowsT, revs := revsT, tab := tabT }
abbrev law12_MoveEnabled_id : Nat := 3
abbrev law12_MovePicks_id : Nat := 4
abbrev law12_MoveTexts_id : Nat := 5
abbrev law12_MoveRound_id : Nat := 6
abbrev law12_MoveMany_id : Nat := 7
abbrev law12_few_id : Nat := 8
abbrev law12_alive_id : Nat := 9
abbrev ref12_Same_id : Nat := 10
abbrev move_Enabled_id : Nat := 11
abbrev ref12_Enabled_id : Nat := 12
abbrev move_Pick_id : Nat := 13
abbrev ref12_Pick_id : Nat := 14
abbrev move_Is_id : Nat := 15
abbrev ref12_Is_id : Nat := 16
abbrev move_Text_id : Nat := 17
abbrev ref12_Text_id : Nat := 18
abbrev doom_Active_id : Nat := 19
abbrev doom_Free_id : Nat := 20
abbrev ref03_Depth_id : Nat := 21
abbrev move_ways_id : Nat := 22
abbrev ref11_Active_id : Nat := 23
abbrev ref11_Free_id : Nat := 24
abbrev slices_Contains__api_Move_id : Nat := 25
abbrev ref12_word_id : Nat := 27
abbrev ref12_Digits_id : Nat := 28
abbrev settle_Settled_id : Nat := 29
abbrev doom_Active_1_id : Nat := 30
abbrev slices_ContainsFunc__int_id : Nat := 31
abbrev plot_Over_id : Nat := 32
abbrev doom_Active_1_1_id : Nat := 33
abbrev doom_kid_id : Nat := 34
abbrev doom_goes_id : Nat := 35
abbrev row_Count_id : Nat := 36
abbrev doom_beside_id : Nat := 37
abbrev slices_ContainsFunc__Sapi_Node_id : Nat := 38
abbrev doom_Doomed_id : Nat := 39
abbrev ref03_Walk_id : Nat := 40
abbrev move_always_id : Nat := 41
abbrev ref11_Settled_id : Nat := 42
abbrev ref11_waits_id : Nat := 43
abbrev ref11_in_id : Nat := 44
abbrev ref11_Path_id : Nat := 45
abbrev ref11_Doomed_id : Nat := 46
abbrev slices_Index__api_Move_id : Nat := 47
abbrev row_Same_id : Nat := 49
abbrev settle_Settle_id : Nat := 50
abbrev slices_IndexFunc__int_id : Nat := 51
abbrev row_Kids_id : Nat := 53
abbrev slices_Contains__int_id : Nat := 54
abbrev slices_IndexFunc__Sapi_Node_id : Nat := 56
abbrev doom_doomed_id : Nat := 57
abbrev ref03_Arity_id : Nat := 58
abbrev ref03_Same_id : Nat := 59
abbrev ref10_Settle_id : Nat := 60
abbrev ref03_Kids_id : Nat := 61
abbrev ref11_on_id : Nat := 62
abbrev ref11_bang_id : Nat := 63
abbrev slices_Equal__api_Node_id : Nat := 65
abbrev sort_On_id : Nat := 66
abbrev settle_settle_id : Nat := 67
abbrev plot_one_id : Nat := 69
abbrev row_Arity_id : Nat := 70
abbrev row_Size_id : Nat := 71
abbrev slices_Clone__api_Node_id : Nat := 72
abbrev slices_Index__int_id : Nat := 73
abbrev ref04_Of_id : Nat := 74
abbrev ref10_Tree_id : Nat := 75
abbrev ref03_Size_id : Nat := 76
abbrev sort_on_id : Nat := 81
abbrev sort_Of_id : Nat := 82
abbrev settle_over_id : Nat := 83
abbrev settle_behind_id : Nat := 84
abbrev settle_stack_id : Nat := 85
abbrev settle_Ended_id : Nat := 86
abbrev row_Make_id : Nat := 87
abbrev settle_end_id : Nat := 88
abbrev settle_par_id : Nat := 89
abbrev settle_block_id : Nat := 90
abbrev ref03_Whole_id : Nat := 91
abbrev ref04_Is_id : Nat := 92
abbrev ref10_over_id : Nat := 93
abbrev ref10_first_id : Nat := 94
abbrev ref10_par_id : Nat := 95
abbrev ref10_block_id : Nat := 96
abbrev row_Whole_id : Nat := 102
abbrev sort_sort_id : Nat := 103
abbrev slices_Concat__api_Node_id : Nat := 104
abbrev sign_Both_id : Nat := 105
abbrev ref03_Right_id : Nat := 106
abbrev ref04_plain_id : Nat := 107
abbrev ref04_paired_id : Nat := 108
abbrev ref04_plainOn_id : Nat := 109
abbrev ref04_pairedOn_id : Nat := 110
abbrev ref10_node_id : Nat := 111
abbrev ref10_end_id : Nat := 112
abbrev ref03_Two_id : Nat := 113
abbrev ref01_Both_id : Nat := 114
abbrev ref03_One_id : Nat := 115
abbrev row_Whole_1_id : Nat := 118
abbrev row_Right_id : Nat := 119
abbrev slices_ContainsFunc__api_Node_id : Nat := 120
abbrev sort_both_id : Nat := 121
abbrev sort_behind_id : Nat := 122
abbrev slices_Grow__api_Node_id : Nat := 123
abbrev sign_Is_id : Nat := 124
abbrev ref03_word_id : Nat := 125
abbrev ref01_Is_id : Nat := 126
abbrev row_named_id : Nat := 127
abbrev slices_IndexFunc__api_Node_id : Nat := 128
abbrev strings_Trim_id : Nat := 129
abbrev slices_Contains__string_id : Nat := 130
abbrev strings_trimLeftByte_id : Nat := 131
abbrev strings_trimRightByte_id : Nat := 132
abbrev slices_Index__string_id : Nat := 138
end Go.Proofs.YtgogodeknkoalaaGreatDoor.Sv
