/- The tables of the seat's evaluator: types, signatures, functions, shapes of loops. Written by a program (emit3.py). -/
import Derived.Test.YtjolkdjkhekbnaaGreatDoorProg
import Derived.Test.YtjolkdjkhekbnaaGreatDoorEv4
set_option linter.unusedVariables false
set_option linter.unusedSimpArgs false
namespace Go.Proofs.YtjolkdjkhekbnaaGreatDoor.Sv
open Go Go.Sv Go.Proofs
set_option maxRecDepth 100000
abbrev T95:Ty:=(.pair (.int .i64) .fn)
abbrev T14:Ty:=(.pair .str (.int .u64))
abbrev T290:Ty:=(.pair (.int .u8) (.int .u8))
abbrev T71:Ty:=(.pair (.int .i64) (.int .i64))
abbrev T33:Ty:=(.pair (.slice 9 .str) (.int .i64))
abbrev T68:Ty:=(.pair (.int .i64) (.pair .str (.int .i64)))
abbrev T8:Ty:=(.pair (.int .i64) (.pair (.int .i64) (.pair .bool (.int .u8))))
abbrev T139:Ty:=(.pair T33 T33)
abbrev T28:Ty:=(.pair (.slice 68 T68) T33)
abbrev _root_.Go.Sv.Tree.lf {α:Type} (k:Nat) (v:α):Tree α:=.node k v .leaf .leaf
abbrev K0:Kd:=.v (.int .i64) []
abbrev K1:Kd:=.v (.slice 68 T68) []
abbrev K2:Kd:=.v .bool []
abbrev K3:Kd:=.v (.slice 3 (.int .i64)) []
abbrev K4:Kd:=.v (.slice 158 T139) []
abbrev K5:Kd:=.v (.slice 36 T33) []
abbrev K6:Kd:=.v (.slice 33 T33) []
abbrev K7:Kd:=.v (.slice 9 .str) []
abbrev K8:Kd:=.v (.slice 158 T139) [0]
abbrev K9:Kd:=.v (.slice 22 (.slice 68 T68)) []
abbrev K10:Kd:=.v (.slice 139 T139) [0]
abbrev K11:Kd:=.v (.slice 139 T139) []
abbrev K12:Kd:=.v T33 []
abbrev K13:Kd:=.v (.slice 22 (.slice 68 T68)) [0]
abbrev K14:Kd:=.v (.slice 26 (.slice 9 .str)) []
abbrev K15:Kd:=.v (.slice 3 (.int .i64)) [0]
abbrev K16:Kd:=.v .str []
abbrev K17:Kd:=.v (.slice 33 T33) [0]
abbrev K18:Kd:=.p (.slice 4611686018427387905 (.pair (.int .i64) (.slice 95 T95)))
abbrev K19:Kd:=.v (.slice 36 T33) [0]
abbrev K20:Kd:=.v (.slice 68 T68) [0]
abbrev K21:Kd:=.v (.slice 136 (.slice 139 T139)) []
abbrev K22:Kd:=.v (.slice 43 (.slice 33 T33)) []
abbrev K23:Kd:=.v (.slice 71 T71) []
abbrev K24:Kd:=.v (.slice 71 T71) [0]
abbrev K25:Kd:=.v (.slice 9 .str) [0]
abbrev K26:Kd:=.v T139 []
abbrev K27:Kd:=.v (.slice 26 (.slice 9 .str)) [0]
abbrev K28:Kd:=.v T68 []
abbrev K29:Kd:=.b T33 36 []
abbrev K30:Kd:=.v T71 []
abbrev K31:Kd:=.p (.slice 68 T68)
abbrev K32:Kd:=.v (.int .u8) []
abbrev K33:Kd:=.b T28 28 [0,1]
abbrev K34:Kd:=.v T28 []
def tiT:Tree TI:=(.node 93 ⟨.other,1,8,(some .fn),false⟩ (.node 26 ⟨(.slice 9),1,24,(some (.slice 9 .str)),false⟩ (.node 10 ⟨.str,1,16,(some .str),false⟩ (.node 6 ⟨(.int .u8),1,1,(some (.int .u8)),false⟩ (.node 4 ⟨.bool,1,1,(some .bool),false⟩ (.node 3 ⟨(.int .i64),1,8,(some (.int .i64)),false⟩ (.lf 2 ⟨(.int .i64),1,8,(some (.int .i64)),false⟩) .leaf) (.lf 5 ⟨(.int .u8),1,1,(some (.int .u8)),false⟩)) (.node 8 ⟨(.struct [(0,2),(1,3),(2,4),(3,6)]),4,24,(some T8),false⟩ (.lf 7 ⟨(.struct [(0,2),(1,3),(2,4),(3,6)]),4,24,(some T8),false⟩) (.lf 9 ⟨.str,1,16,(some .str),false⟩))) (.node 14 ⟨(.struct [(0,9),(1,12)]),2,24,(some T14),false⟩ (.node 12 ⟨(.int .u64),1,8,(some (.int .u64)),false⟩ (.lf 11 ⟨.str,1,16,(some .str),false⟩) (.lf 13 ⟨(.struct [(0,9),(1,12)]),2,24,(some T14),false⟩)) (.node 22 ⟨(.slice 68),1,24,(some (.slice 68 T68)),false⟩ (.lf 21 ⟨(.int .i32),1,4,(some (.int .i32)),false⟩) (.lf 23 ⟨(.slice 3),1,24,(some (.slice 3 (.int .i64))),false⟩)))) (.node 47 ⟨(.slice 36),1,24,(some (.slice 36 T33)),false⟩ (.node 33 ⟨(.struct [(0,26),(1,3)]),2,32,(some T33),false⟩ (.node 30 ⟨(.struct [(0,22),(1,26),(2,3)]),3,56,(some T28),false⟩ (.node 28 ⟨(.struct [(0,22),(1,26),(2,3)]),3,56,(some T28),false⟩ (.lf 27 ⟨(.struct [(0,22),(1,26),(2,3)]),3,56,(some T28),false⟩) .leaf) (.lf 32 ⟨(.struct [(0,26),(1,3)]),2,32,(some T33),false⟩)) (.node 43 ⟨(.slice 33),1,24,(some (.slice 33 T33)),false⟩ (.lf 36 ⟨(.struct [(0,26),(1,3)]),2,32,(some T33),false⟩) (.lf 44 ⟨(.int .i64),1,8,(some (.int .i64)),false⟩))) (.node 70 ⟨(.struct [(0,3),(1,3)]),2,16,(some T71),false⟩ (.node 67 ⟨(.struct [(0,3),(1,9),(2,3)]),3,32,(some T68),false⟩ (.lf 58 ⟨(.slice 71),1,24,(some (.slice 71 T71)),false⟩) (.lf 68 ⟨(.struct [(0,3),(1,9),(2,3)]),3,32,(some T68),true⟩)) (.node 89 ⟨(.map 3 92),1,8,none,false⟩ (.lf 71 ⟨(.struct [(0,3),(1,3)]),2,16,(some T71),true⟩) (.lf 92 ⟨(.slice 95),1,24,(some (.slice 95 T95)),false⟩))))) (.node 207 ⟨(.int .u64),1,8,(some (.int .u64)),false⟩ (.node 151 ⟨(.int .u64),1,8,(some (.int .u64)),false⟩ (.node 136 ⟨(.slice 139),1,24,(some (.slice 139 T139)),false⟩ (.node 115 ⟨(.slice 22),1,24,(some (.slice 22 (.slice 68 T68))),false⟩ (.node 95 ⟨(.struct [(0,3),(1,93)]),2,16,(some T95),false⟩ (.lf 94 ⟨(.struct [(0,3),(1,93)]),2,16,(some T95),false⟩) .leaf) (.lf 120 ⟨(.slice 158),1,24,(some (.slice 158 T139)),false⟩)) (.node 139 ⟨(.struct [(0,33),(2,33)]),4,64,(some T139),false⟩ (.lf 138 ⟨(.struct [(0,33),(2,33)]),4,64,(some T139),false⟩) (.lf 141 ⟨(.array 4 9),4,64,(some (.pair .str (.pair .str (.pair .str .str)))),false⟩))) (.node 182 ⟨(.slice 43),1,24,(some (.slice 43 (.slice 33 T33))),false⟩ (.node 157 ⟨(.struct [(0,36),(2,36)]),4,64,(some T139),false⟩ (.lf 152 ⟨(.slice 5),1,24,(some (.slice 5 (.int .u8))),false⟩) (.lf 158 ⟨(.struct [(0,36),(2,36)]),4,64,(some T139),false⟩)) (.node 198 ⟨(.int .i64),1,8,(some (.int .i64)),false⟩ (.lf 184 ⟨(.slice 26),1,24,(some (.slice 26 (.slice 9 .str))),false⟩) (.lf 205 ⟨(.int .u32),1,4,(some (.int .u32)),false⟩)))) (.node 263 ⟨(.array 6 9),6,96,(some (.pair .str (.pair .str (.pair .str (.pair .str (.pair .str .str)))))),false⟩ (.node 222 ⟨.other,1,8,none,false⟩ (.node 219 ⟨(.struct [(0,3),(1,3)]),2,16,(some T71),false⟩ (.lf 216 ⟨(.slice 220),1,24,(some (.slice 220 T71)),false⟩) (.lf 220 ⟨(.struct [(0,3),(1,3)]),2,16,(some T71),false⟩)) (.node 227 ⟨.other,1,8,(some .fn),false⟩ (.lf 225 ⟨(.slice 136),1,24,(some (.slice 136 (.slice 139 T139))),false⟩) (.lf 233 ⟨(.int .u64),1,8,(some (.int .u64)),false⟩))) (.node 301 ⟨(.int .u8),1,1,(some (.int .u8)),false⟩ (.node 290 ⟨(.struct [(0,5),(1,5)]),2,2,(some T290),false⟩ (.lf 289 ⟨(.struct [(0,5),(1,5)]),2,2,(some T290),false⟩) (.lf 291 ⟨(.array 16 290),32,32,(some (.pair T290 (.pair T290 (.pair T290 (.pair T290 (.pair T290 (.pair T290 (.pair T290 (.pair T290 (.pair T290 (.pair T290 (.pair T290 (.pair T290 (.pair T290 (.pair T290 (.pair T290 T290)))))))))))))))),false⟩)) (.node 305 ⟨(.int .i32),1,4,(some (.int .i32)),false⟩ (.lf 302 ⟨(.int .u8),1,1,(some (.int .u8)),false⟩) (.lf 306 ⟨(.int .i32),1,4,(some (.int .i32)),false⟩))))))
def sigT:Tree Sig:=(.node 121 ⟨[K12,K12],[K6],false⟩ (.node 61 ⟨[K3,K0],[K2],false⟩ (.node 31 ⟨[K1,K3],[K0],false⟩ (.node 17 ⟨[K12,K12],[K0],false⟩ (.node 10 ⟨[K1],[K2],false⟩ (.node 6 ⟨[K1,K3],[K2],false⟩ (.node 4 ⟨[K1],[K2],false⟩ (.lf 3 ⟨[K1,K3],[K2],false⟩) (.lf 5 ⟨[K1,K12],[K2],false⟩)) (.node 8 ⟨[K1,K12],[K2],false⟩ (.lf 7 ⟨[K1,K3,K3],[K2],false⟩) (.lf 9 ⟨[K1],[K2],false⟩))) (.node 14 ⟨[K34],[K12,K2],false⟩ (.node 12 ⟨[K1,K3],[K34],false⟩ (.lf 11 ⟨[],[K2],false⟩) (.lf 13 ⟨[K1,K3],[K34],false⟩)) (.node 16 ⟨[K34,K34],[K2],false⟩ (.lf 15 ⟨[K34],[K12,K2],false⟩) .leaf))) (.node 24 ⟨[K1,K12],[K3,K2],false⟩ (.node 21 ⟨[K1],[K5,K0],false⟩ (.node 19 ⟨[K1],[K2],false⟩ (.lf 18 ⟨[K1,K1],[K2],false⟩) (.lf 20 ⟨[K1],[K6,K0],false⟩)) (.node 23 ⟨[K6],[K5],false⟩ (.lf 22 ⟨[K5,K5],[K2],false⟩) .leaf)) (.node 28 ⟨[K1],[K23],false⟩ (.node 26 ⟨[K3,K3],[K2],false⟩ (.lf 25 ⟨[K1,K12],[K3,K2],false⟩) (.lf 27 ⟨[K1],[K1],false⟩)) (.node 30 ⟨[K7,K7],[K7],false⟩ (.lf 29 ⟨[K7,K7],[K2],false⟩) .leaf)))) (.node 46 ⟨[K7,K7],[K0],false⟩ (.node 39 ⟨[K1],[K20],false⟩ (.node 35 ⟨[K1],[K2],false⟩ (.node 33 ⟨[K6,K12],[K2],false⟩ (.lf 32 ⟨[K12,K12],[K0],false⟩) (.lf 34 ⟨[K1],[K1],false⟩)) (.node 37 ⟨[K1],[K0],false⟩ (.lf 36 ⟨[K1],[K6,K0],false⟩) (.lf 38 ⟨[K12],[K16],false⟩))) (.node 43 ⟨[K1,K30],[K1,K16,K0],false⟩ (.node 41 ⟨[K1,K30],[K20,K16,K0],false⟩ (.lf 40 ⟨[K1,K0],[K30,K0],false⟩) (.lf 42 ⟨[K1,K0],[K30,K0],false⟩)) (.node 45 ⟨[K7],[K25],false⟩ (.lf 44 ⟨[K1],[K0,K2],false⟩) .leaf))) (.node 54 ⟨[K1,K12],[K0],false⟩ (.node 51 ⟨[K1],[K5],false⟩ (.node 48 ⟨[K6],[K6],false⟩ (.lf 47 ⟨[K1],[K0],false⟩) (.lf 50 ⟨[K1],[K0],false⟩)) (.node 53 ⟨[K5,K12],[K2],false⟩ (.lf 52 ⟨[K12,K16],[K12,K2],false⟩) .leaf)) (.node 58 ⟨[K1],[K1],false⟩ (.node 56 ⟨[K12,K0,K16],[K12,K2],false⟩ (.lf 55 ⟨[K1],[K23],false⟩) (.lf 57 ⟨[K1],[K2],false⟩)) (.node 60 ⟨[K1],[K3],false⟩ (.lf 59 ⟨[],[K18],false⟩) .leaf))))) (.node 92 ⟨[K4],[K5],false⟩ (.node 76 ⟨[K1,K0],[K1],false⟩ (.node 69 ⟨[K1,K0],[K0,K0],false⟩ (.node 65 ⟨[K1],[K2],false⟩ (.node 63 ⟨[K6,.f],[K2],false⟩ (.lf 62 ⟨[K12,K12],[K0],false⟩) (.lf 64 ⟨[K12,.p T33],[K2],false⟩)) (.node 67 ⟨[K1,K2,.f],[K6,K0],false⟩ (.lf 66 ⟨[K1],[K20],false⟩) (.lf 68 ⟨[K1],[K6],false⟩))) (.node 73 ⟨[K1,K0],[K1],false⟩ (.node 71 ⟨[K1,K30],[K2],false⟩ (.lf 70 ⟨[K0],[K16],false⟩) (.lf 72 ⟨[K1,K0,K1],[K20],false⟩)) (.node 75 ⟨[K1,K0,K1],[K1],false⟩ (.lf 74 ⟨[K1,K30],[K2],false⟩) .leaf))) (.node 85 ⟨[K12,K12],[.v T33 [0]],false⟩ (.node 80 ⟨[],[],true⟩ (.node 78 ⟨[K1],[K2],false⟩ (.lf 77 ⟨[K1,K2],[K2],false⟩) (.lf 79 ⟨[K6],[K17],false⟩)) (.node 82 ⟨[K12,K12],[K2],false⟩ (.lf 81 ⟨[],[],true⟩) .leaf)) (.node 89 ⟨[K1],[K9],false⟩ (.node 87 ⟨[K1],[K2],false⟩ (.lf 86 ⟨[K1,K2],[K2],false⟩) (.lf 88 ⟨[K1],[K2],false⟩)) (.node 91 ⟨[K5],[K5],false⟩ (.lf 90 ⟨[K0],[K12],false⟩) .leaf)))) (.node 107 ⟨[K3,K0],[K0],false⟩ (.node 100 ⟨[K1,K0],[K2],false⟩ (.node 96 ⟨[K1,K0],[K2],false⟩ (.node 94 ⟨[K0,K5,K5],[K5],false⟩ (.lf 93 ⟨[K1],[K4],false⟩) (.lf 95 ⟨[K1],[K3],false⟩)) (.node 98 ⟨[K1],[K1],false⟩ (.lf 97 ⟨[K1],[K0],false⟩) (.lf 99 ⟨[K1,K0],[K2],false⟩))) (.node 104 ⟨[K0,K31,.p (.int .i64)],[K2],false⟩ (.node 102 ⟨[K3,.f],[K2],false⟩ (.lf 101 ⟨[K0,K31],[K2],false⟩) (.lf 103 ⟨[K1,K0],[K15],false⟩)) (.node 106 ⟨[K28],[K0],false⟩ (.lf 105 ⟨[K1,K0,K0],[K0],false⟩) .leaf))) (.node 114 ⟨[K1],[K1],false⟩ (.node 111 ⟨[K6,.f],[K0],false⟩ (.node 109 ⟨[K7,K7],[K0],false⟩ (.lf 108 ⟨[K3],[K0],false⟩) (.lf 110 ⟨[K0,K0],[K0],false⟩)) (.node 113 ⟨[K1],[K0],false⟩ (.lf 112 ⟨[K1],[K2],false⟩) .leaf)) (.node 118 ⟨[K12,K12],[K6],false⟩ (.node 116 ⟨[K0],[K12],false⟩ (.lf 115 ⟨[K1],[K13],false⟩) (.lf 117 ⟨[K6,K6,.f],[K6],false⟩)) (.node 120 ⟨[K12,K12],[K6],false⟩ (.lf 119 ⟨[K22],[K17],false⟩) .leaf)))))) (.node 183 ⟨[K26,K26],[K11],false⟩ (.node 153 ⟨[K12,K12],[K5],false⟩ (.node 136 ⟨[K0],[K0],false⟩ (.node 129 ⟨[K1,K1,K31],[K1],false⟩ (.node 125 ⟨[K0],[K2],false⟩ (.node 123 ⟨[K1],[K11],false⟩ (.lf 122 ⟨[K12,K12],[K12],false⟩) (.lf 124 ⟨[K0],[K0],false⟩)) (.node 127 ⟨[K23,K30],[K2],false⟩ (.lf 126 ⟨[],[.v (.pair .str (.pair .str (.pair .str .str))) []],false⟩) (.lf 128 ⟨[K1],[K0],false⟩))) (.node 133 ⟨[K28,K1,K1],[K1],false⟩ (.node 131 ⟨[K28,K9],[K1],false⟩ (.lf 130 ⟨[K0,K0],[K1],false⟩) (.lf 132 ⟨[K1],[K0],false⟩)) (.node 135 ⟨[K0,K0],[K1],false⟩ (.lf 134 ⟨[K28,K1],[K20],false⟩) .leaf))) (.node 146 ⟨[K4],[K4],false⟩ (.node 143 ⟨[K1,K3],[K0],false⟩ (.node 138 ⟨[K1,K1],[K2],false⟩ (.lf 137 ⟨[K1],[K0],false⟩) (.lf 142 ⟨[K14],[K25],false⟩)) (.node 145 ⟨[K12,K12],[K12],false⟩ (.lf 144 ⟨[K5,K5],[K5],false⟩) .leaf)) (.node 150 ⟨[K4,K5],[K4],false⟩ (.node 148 ⟨[K4,K4],[K4],false⟩ (.lf 147 ⟨[K5,K5],[K8],false⟩) (.lf 149 ⟨[K4,K4],[K4],false⟩)) (.node 152 ⟨[K12,K12],[K12],false⟩ (.lf 151 ⟨[K0,K5],[K4],false⟩) .leaf)))) (.node 169 ⟨[K16,K16],[K0],false⟩ (.node 161 ⟨[K0,K1,K1],[K1],false⟩ (.node 157 ⟨[K1],[K2],false⟩ (.node 155 ⟨[K3,K0],[K2],false⟩ (.lf 154 ⟨[K1,K0],[K3],false⟩) (.lf 156 ⟨[K1,K0,K0],[K13,K2],false⟩)) (.node 159 ⟨[K1,K0],[K2],false⟩ (.lf 158 ⟨[K1],[K2],false⟩) (.lf 160 ⟨[K0],[K1],false⟩))) (.node 165 ⟨[K9,.f],[K2],false⟩ (.node 163 ⟨[K1],[K1],false⟩ (.lf 162 ⟨[K1,K1],[K1],false⟩) (.lf 164 ⟨[K1,K0],[K9,K2],false⟩)) (.node 167 ⟨[K3,.f],[K0],false⟩ (.lf 166 ⟨[K1],[K2],false⟩) .leaf))) (.node 176 ⟨[K28,K1],[K1],false⟩ (.node 173 ⟨[K1,K1],[K1],false⟩ (.node 171 ⟨[K0],[K1],false⟩ (.lf 170 ⟨[K0],[K2],false⟩) (.lf 172 ⟨[K28,K1,K1,K0],[K1],false⟩)) (.node 175 ⟨[K28,K1,K1],[K1],false⟩ (.lf 174 ⟨[K0,K1],[K1],false⟩) .leaf)) (.node 180 ⟨[K7,K7],[K14],false⟩ (.node 178 ⟨[.n 33 T33,K0],[K17],false⟩ (.lf 177 ⟨[K0],[K0],false⟩) (.lf 179 ⟨[K0,K0],[K0],false⟩)) (.node 182 ⟨[K11,K11,.f],[K10],false⟩ (.lf 181 ⟨[K6,K6],[K10],false⟩) .leaf))))) (.node 224 ⟨[K1],[K2],false⟩ (.node 209 ⟨[K7,K7],[K14],false⟩ (.node 191 ⟨[K23,K30],[K0],false⟩ (.node 187 ⟨[K12,K12],[K11],false⟩ (.node 185 ⟨[K26,K26],[K11],false⟩ (.lf 184 ⟨[K21],[K10],false⟩) (.lf 186 ⟨[K6,K6,.f],[K10],false⟩)) (.node 189 ⟨[K26,K12],[K11],false⟩ (.lf 188 ⟨[K11,K6,.f],[K10],false⟩) (.lf 190 ⟨[K10],[K10],false⟩))) (.node 195 ⟨[K1,K1],[K2],false⟩ (.node 193 ⟨[K1],[K2],false⟩ (.lf 192 ⟨[K9],[K20],false⟩) (.lf 194 ⟨[K1],[K0],false⟩)) (.node 208 ⟨[K4,K4],[K4],false⟩ (.lf 207 ⟨[.n 9 .str,K0],[K25],false⟩) .leaf))) (.node 216 ⟨[K1,K9],[K2],false⟩ (.node 213 ⟨[K28],[K2],false⟩ (.node 211 ⟨[K0,K0],[K2],false⟩ (.lf 210 ⟨[K0,K0],[K0],false⟩) (.lf 212 ⟨[K1],[K2],false⟩)) (.node 215 ⟨[K1,K9],[K2],false⟩ (.lf 214 ⟨[K1,K9],[K2],false⟩) .leaf)) (.node 220 ⟨[],[],true⟩ (.node 218 ⟨[K0,K0],[K28],false⟩ (.lf 217 ⟨[K1,K9],[K2],false⟩) (.lf 219 ⟨[K0,K1],[K1],false⟩)) (.node 222 ⟨[K1],[K2],false⟩ (.lf 221 ⟨[K9,.f],[K0],false⟩) .leaf)))) (.node 239 ⟨[K1,.f],[K2],false⟩ (.node 232 ⟨[K26,K26],[K0],false⟩ (.node 229 ⟨[K7,K7],[K2],false⟩ (.node 227 ⟨[],[],true⟩ (.lf 225 ⟨[K16],[K2],false⟩) (.lf 228 ⟨[],[],true⟩)) (.node 231 ⟨[.n 139 T139,K0],[K10],false⟩ (.lf 230 ⟨[K12,K12],[K11],false⟩) .leaf)) (.node 236 ⟨[.n 68 T68,K0],[K20],false⟩ (.node 234 ⟨[],[],true⟩ (.lf 233 ⟨[],[],true⟩) (.lf 235 ⟨[K26,K26,.p .fn],[K2],false⟩)) (.node 238 ⟨[K28],[K2],false⟩ (.lf 237 ⟨[K28],[K2],false⟩) .leaf))) (.node 254 ⟨[K16],[K2],false⟩ (.node 249 ⟨[K16,K14],[K27],false⟩ (.node 241 ⟨[K0,K0,K0],[K0],false⟩ (.lf 240 ⟨[K0,K0],[K0],false⟩) (.lf 248 ⟨[K26,K26],[K0],false⟩)) (.node 251 ⟨[K16],[K2],false⟩ (.lf 250 ⟨[K0],[K2],false⟩) .leaf)) (.node 289 ⟨[K16,K32],[K16],false⟩ (.node 277 ⟨[K16,K16],[K16],false⟩ (.lf 255 ⟨[K1,.f],[K0],false⟩) (.lf 278 ⟨[K7,K16],[K2],false⟩)) (.node 296 ⟨[K7,K16],[K0],false⟩ (.lf 290 ⟨[K16,K32],[K16],false⟩) .leaf)))))))
abbrev sg (f:Nat):Sig:=(sigT.find f).getD ⟨[],[],false⟩
open Tryz in
noncomputable def fnT:Tree Func:=(.node 122 f122 (.node 62 f62 (.node 31 f31 (.node 16 f16 (.node 9 f9 (.node 6 f6 (.node 4 f4 (.lf 3 f3) (.lf 5 f5)) (.node 8 f8 (.lf 7 f7) .leaf)) (.node 13 f13 (.node 11 f11 (.lf 10 f10) (.lf 12 f12)) (.node 15 f15 (.lf 14 f14) .leaf))) (.node 25 f25 (.node 21 f21 (.node 18 f18 (.lf 17 f17) (.lf 19 f19)) (.node 23 f23 (.lf 22 f22) .leaf)) (.node 28 f28 (.node 27 f27 (.lf 26 f26) .leaf) (.node 30 f30 (.lf 29 f29) .leaf)))) (.node 47 f47 (.node 38 f38 (.node 35 f35 (.node 33 f33 (.lf 32 f32) (.lf 34 f34)) (.node 37 f37 (.lf 36 f36) .leaf)) (.node 43 f43 (.node 41 f41 (.lf 40 f40) (.lf 42 f42)) (.node 46 f46 (.lf 44 f44) .leaf))) (.node 55 f55 (.node 52 f52 (.node 50 f50 (.lf 48 f48) (.lf 51 f51)) (.node 54 f54 (.lf 53 f53) .leaf)) (.node 58 f58 (.node 57 f57 (.lf 56 f56) .leaf) (.node 61 f61 (.lf 60 f60) .leaf))))) (.node 95 f95 (.node 77 f77 (.node 69 f69 (.node 66 f66 (.node 64 f64 (.lf 63 f63) (.lf 65 f65)) (.node 68 f68 (.lf 67 f67) .leaf)) (.node 74 f74 (.node 71 f71 (.lf 70 f70) (.lf 73 f73)) (.node 76 f76 (.lf 75 f75) .leaf))) (.node 89 f89 (.node 86 f86 (.node 82 f82 (.lf 78 f78) (.lf 85 f85)) (.node 88 f88 (.lf 87 f87) .leaf)) (.node 92 f92 (.node 91 f91 (.lf 90 f90) .leaf) (.node 94 f94 (.lf 93 f93) .leaf)))) (.node 109 f109 (.node 102 f102 (.node 99 f99 (.node 97 f97 (.lf 96 f96) (.lf 98 f98)) (.node 101 f101 (.lf 100 f100) .leaf)) (.node 106 f106 (.node 105 f105 (.lf 104 f104) .leaf) (.node 108 f108 (.lf 107 f107) .leaf))) (.node 116 f116 (.node 113 f113 (.node 111 f111 (.lf 110 f110) (.lf 112 f112)) (.node 115 f115 (.lf 114 f114) .leaf)) (.node 119 f119 (.node 118 f118 (.lf 117 f117) .leaf) (.node 121 f121 (.lf 120 f120) .leaf)))))) (.node 181 f181 (.node 152 f152 (.node 136 f136 (.node 129 f129 (.node 126 f126 (.node 124 f124 (.lf 123 f123) (.lf 125 f125)) (.node 128 f128 (.lf 127 f127) .leaf)) (.node 133 f133 (.node 131 f131 (.lf 130 f130) (.lf 132 f132)) (.node 135 f135 (.lf 134 f134) .leaf))) (.node 146 f146 (.node 143 f143 (.node 138 f138 (.lf 137 f137) (.lf 142 f142)) (.node 145 f145 (.lf 144 f144) .leaf)) (.node 149 f149 (.node 148 f148 (.lf 147 f147) .leaf) (.node 151 f151 (.lf 150 f150) .leaf)))) (.node 166 f166 (.node 159 f159 (.node 156 f156 (.node 154 f154 (.lf 153 f153) (.lf 155 f155)) (.node 158 f158 (.lf 157 f157) .leaf)) (.node 163 f163 (.node 161 f161 (.lf 160 f160) (.lf 162 f162)) (.node 165 f165 (.lf 164 f164) .leaf))) (.node 174 f174 (.node 171 f171 (.node 169 f169 (.lf 167 f167) (.lf 170 f170)) (.node 173 f173 (.lf 172 f172) .leaf)) (.node 177 f177 (.node 176 f176 (.lf 175 f175) .leaf) (.node 179 f179 (.lf 178 f178) .leaf))))) (.node 219 f219 (.node 195 f195 (.node 188 f188 (.node 185 f185 (.node 183 f183 (.lf 182 f182) (.lf 184 f184)) (.node 187 f187 (.lf 186 f186) .leaf)) (.node 192 f192 (.node 190 f190 (.lf 189 f189) (.lf 191 f191)) (.node 194 f194 (.lf 193 f193) .leaf))) (.node 213 f213 (.node 210 f210 (.node 208 f208 (.lf 207 f207) (.lf 209 f209)) (.node 212 f212 (.lf 211 f211) .leaf)) (.node 216 f216 (.node 215 f215 (.lf 214 f214) .leaf) (.node 218 f218 (.lf 217 f217) .leaf)))) (.node 239 f239 (.node 231 f231 (.node 225 f225 (.node 222 f222 (.lf 221 f221) (.lf 224 f224)) (.node 230 f230 (.lf 229 f229) .leaf)) (.node 236 f236 (.node 235 f235 (.lf 232 f232) .leaf) (.node 238 f238 (.lf 237 f237) .leaf))) (.node 254 f254 (.node 249 f249 (.node 241 f241 (.lf 240 f240) (.lf 248 f248)) (.node 251 f251 (.lf 250 f250) .leaf)) (.node 289 f289 (.node 278 f278 (.lf 255 f255) .leaf) (.node 296 f296 (.lf 290 f290) .leaf)))))))
def xjr:Tree (Tree (Shape×Shape)):=(.node 120 (.lf 0 ([(5,K0),(6,K17),(18,K14),(19,K0),(20,K0)],[(6,K17)])) (.node 68 (.lf 1 ([(4,K17),(93,K11),(94,K0),(95,K0)],[(4,K17)])) (.node 28 (.node 2 ([(0,K1),(3,K18),(4,K24),(6,K0),(11,K3),(12,K0),(13,K0),(23,.v (.slice 95 T95) []),(24,K0),(25,K0)],[(0,K1),(3,K18),(4,K24),(11,K3),(12,K0),(13,K0)]) (.lf 0 ([(0,K1),(3,K18),(4,K24),(11,K3),(12,K0),(13,K0)],[(4,K24)])) .leaf) (.node 22 (.lf 0 ([(0,K5),(1,K5),(4,K2),(5,K0)],[(4,K2)])) (.node 13 (.lf 0 ([(1,K3),(4,.b T28 30 [0,1]),(5,.b T28 30 [1]),(6,K0)],[(4,.b T28 30 []),(5,.b T28 30 [])])) (.node 12 (.lf 0 ([(4,K33),(5,K33),(16,K3),(17,K0),(18,K0)],[(4,K33),(5,K33)])) (.lf 8 (.lf 0 ([(0,K1),(3,K29),(4,K2),(5,K6),(51,K6),(52,K0),(53,K0)],[(0,K1),(3,K29),(4,K2),(5,K6)]))) .leaf) (.lf 18 (.lf 0 ([(0,K1),(1,K1),(4,K2),(5,K0)],[(4,K2)])))) (.node 25 (.lf 0 ([(0,K1),(3,K29),(4,K15),(5,K2),(6,K15)],[(4,K15),(5,K2)])) (.lf 23 (.lf 0 ([(3,K19),(6,K6),(7,K0),(8,K0)],[(3,K19)]))) (.lf 26 (.lf 0 ([(0,K3),(1,K3),(4,K2),(5,K0)],[(4,K2)]))))) (.node 53 (.lf 0 ([(0,K5),(3,K29),(4,K2),(5,K0)],[(4,K2)])) (.node 38 (.lf 0 ([(1,.b T33 33 []),(3,K16),(7,K7),(8,K0),(9,K0)],[(1,.b T33 33 []),(3,K16)])) (.node 31 (.lf 0 ([(1,K3),(5,K0),(8,K1),(9,K0),(10,K0)],[(5,K0)])) (.lf 29 (.lf 0 ([(0,K7),(1,K7),(4,K2),(5,K0)],[(4,K2)]))) .leaf) (.lf 46 (.lf 0 ([(0,K7),(1,K7),(4,K0),(5,K0)],[(0,K7),(1,K7),(4,K0)])))) (.node 55 (.lf 0 ([(0,K1),(3,K24),(4,K3),(5,K0)],[(3,K24)])) (.lf 54 (.lf 0 ([(0,K1),(3,K29),(4,K0),(5,K23),(6,K0)],[(4,K0)]))) (.lf 60 (.lf 0 ([(1,K31),(3,.f),(4,K15),(11,K0),(12,K0)],[(4,K15)])))))) (.node 107 (.lf 0 ([(0,K3),(1,K0),(4,K0),(7,K0),(8,K0)],[(4,K0)])) (.node 94 (.node 2 ([(0,K0),(1,K5),(2,K5),(7,K19),(8,K0),(9,K0)],[(0,K0),(1,K5),(2,K5),(7,K19),(8,K0)]) (.lf 0 ([(0,K0),(1,K5),(2,K5),(7,K19),(8,K0)],[(7,K19)])) .leaf) (.node 89 (.lf 0 ([(0,K1),(3,K13),(4,K0),(5,K0)],[(3,K13)])) (.node 74 (.lf 0 ([(3,.b T71 71 []),(4,K2),(5,K23),(6,K0)],[(4,K2)])) (.lf 69 (.lf 0 ([(0,K1),(1,K0),(4,K0),(5,K0),(6,K0),(7,K0),(8,K0)],[(4,K0),(5,K0),(6,K0),(7,K0)]))) .leaf) (.lf 92 (.lf 0 ([(0,K4),(3,K19),(4,K0)],[(3,K19)])))) (.node 97 (.lf 0 ([(0,K1),(2,K0),(3,K0)],[(2,K0)])) (.lf 96 (.lf 0 ([(5,K13),(7,K2),(8,K0)],[(7,K2)]))) (.lf 105 (.lf 0 ([(2,K0),(6,K0),(16,K13),(17,K0),(18,K0)],[(6,K0)]))))) (.node 113 (.lf 0 ([(3,K0),(10,K13),(11,K0),(12,K0)],[(3,K0)])) (.node 109 (.lf 0 ([(0,K7),(1,K7),(4,K0),(9,K7),(10,K0),(11,K0)],[(0,K7),(1,K7),(4,K0)])) (.lf 108 (.lf 0 ([(2,K0),(3,K0),(6,K3),(7,K0),(8,K0)],[(2,K0),(3,K0)]))) (.lf 111 (.lf 0 ([(0,K6),(1,.f),(4,K0),(7,K0),(8,K0)],[(4,K0)])))) (.node 117 (.node 2 ([(1,K6),(2,.f),(7,K17),(9,.b T33 33 []),(12,K6),(13,K0),(14,K0),(18,K6),(19,K0),(20,K0)],[(1,K6),(2,.f),(7,K17),(12,K6),(13,K0),(14,K0)]) (.lf 0 ([(1,K6),(2,.f),(7,K17),(12,K6),(13,K0),(14,K0)],[(7,K17)])) .leaf) (.lf 115 (.lf 0 ([(0,K1),(3,K13),(4,K0),(13,K0),(14,K0)],[(3,K13)]))) (.lf 119 (.node 2 ([(6,K17),(25,K22),(26,K0),(27,K0)],[(6,K17)]) (.lf 0 ([(0,K22),(3,K0),(9,K22),(10,K0),(11,K0)],[(0,K22),(3,K0)])) .leaf)))))) (.node 182 (.node 2 ([(1,K11),(2,.f),(7,K10),(9,.b T139 139 []),(12,K11),(13,K0),(14,K0),(18,K11),(19,K0),(20,K0)],[(1,K11),(2,.f),(7,K10),(12,K11),(13,K0),(14,K0)]) (.lf 0 ([(1,K11),(2,.f),(7,K10),(12,K11),(13,K0),(14,K0)],[(7,K10)])) .leaf) (.node 150 (.node 2 ([(0,K4),(1,K5),(5,K8),(6,K0),(7,K0)],[(0,K4),(1,K5),(5,K8),(6,K0)]) (.lf 0 ([(0,K4),(1,K5),(5,K8),(6,K0)],[(5,K8)])) .leaf) (.node 144 (.lf 0 ([(0,K5),(1,K5),(5,K19),(6,K0),(7,K0)],[(5,K19)])) (.node 142 (.node 2 ([(6,K25),(25,K14),(26,K0),(27,K0)],[(6,K25)]) (.lf 0 ([(0,K14),(3,K0),(9,K14),(10,K0),(11,K0)],[(0,K14),(3,K0)])) .leaf) (.node 128 (.lf 0 ([(2,K0),(3,K0),(7,K1),(8,K0),(9,K0)],[(2,K0)])) (.lf 123 (.lf 1 ([(0,K1),(4,K10),(90,K6),(91,K0),(92,K0)],[(4,K10)]))) .leaf) (.lf 143 (.node 2 ([(0,K1),(1,K3),(5,K0),(6,K0),(7,K2),(8,K0)],[(0,K1),(1,K3),(5,K0),(6,K0),(7,K2)]) (.lf 0 ([(0,K1),(1,K3),(5,K0),(6,K0)],[(5,K0)])) .leaf))) (.node 148 (.node 2 ([(0,K4),(1,K4),(5,K8),(6,K0),(7,K0)],[(0,K4),(1,K4),(5,K8),(6,K0)]) (.lf 0 ([(0,K4),(1,K4),(5,K8),(6,K0)],[(5,K8)])) .leaf) (.lf 147 (.node 2 ([(0,K5),(1,K5),(5,K8),(6,K0),(7,K0)],[(0,K5),(1,K5),(5,K8),(6,K0)]) (.lf 0 ([(0,K5),(1,K5),(5,K8),(6,K0)],[(5,K8)])) .leaf)) (.lf 149 (.node 4 ([(0,K4),(1,K4),(5,K8),(6,K0),(7,K0),(8,K5),(9,K5),(10,K0)],[(0,K4),(1,K4),(5,K8),(6,K0),(7,K0)]) (.node 2 ([(0,K4),(1,K4),(5,K8),(6,K0),(7,K0)],[(0,K4),(1,K4),(5,K8),(6,K0)]) (.lf 0 ([(0,K4),(1,K4),(5,K8),(6,K0)],[(5,K8)])) .leaf) (.lf 6 ([(0,K4),(1,K4),(5,K8),(6,K0),(7,K0),(8,K5),(9,K5),(10,K0),(11,K0)],[(0,K4),(1,K4),(5,K8),(6,K0),(7,K0),(8,K5),(9,K5),(10,K0)])))))) (.node 156 (.lf 0 ([(0,K1),(2,K0),(8,K9),(9,K0),(10,K0)],[(0,K1),(2,K0),(8,K9),(9,K0),(10,K0)])) (.node 154 (.lf 0 ([(5,K15),(6,K0),(7,K9),(8,K0),(9,K0)],[(5,K15)])) (.node 153 (.lf 0 ([(2,K29),(3,K29),(5,K19),(6,K14),(7,K0)],[(5,K19)])) (.lf 151 (.lf 0 ([(0,K0),(1,K5),(5,K8),(6,K0)],[(5,K8)]))) .leaf) (.lf 155 (.lf 0 ([(0,K3),(1,K0),(4,K2),(5,K0)],[(4,K2)])))) (.node 164 (.lf 0 ([(0,K1),(1,K0),(4,K13),(5,K2),(19,K15),(20,K0),(21,K0)],[(4,K13),(5,K2)])) (.lf 158 (.lf 0 ([(0,K1),(2,K2),(3,K0)],[(0,K1),(2,K2)]))) (.lf 167 (.lf 0 ([(0,K3),(1,.f),(4,K0),(7,K0),(8,K0)],[(4,K0)])))))) (.node 213 (.lf 0 ([(1,.b T68 68 []),(2,K2),(3,K0)],[(1,.b T68 68 []),(2,K2)])) (.node 192 (.node 2 ([(6,K20),(25,K9),(26,K0),(27,K0)],[(6,K20)]) (.lf 0 ([(0,K9),(3,K0),(9,K9),(10,K0),(11,K0)],[(0,K9),(3,K0)])) .leaf) (.node 188 (.node 2 ([(1,K6),(2,.f),(7,K10),(9,.b T139 139 []),(12,K11),(13,K0),(14,K0),(18,K6),(19,K0),(20,K0)],[(1,K6),(2,.f),(7,K10),(12,K11),(13,K0),(14,K0)]) (.lf 0 ([(1,K6),(2,.f),(7,K10),(12,K11),(13,K0),(14,K0)],[(7,K10)])) .leaf) (.node 186 (.node 2 ([(1,K6),(2,.f),(7,K10),(9,.b T33 33 []),(12,K6),(13,K0),(14,K0),(18,K6),(19,K0),(20,K0)],[(1,K6),(2,.f),(7,K10),(12,K6),(13,K0),(14,K0)]) (.lf 0 ([(1,K6),(2,.f),(7,K10),(12,K6),(13,K0),(14,K0)],[(7,K10)])) .leaf) (.lf 184 (.node 2 ([(6,K10),(25,K21),(26,K0),(27,K0)],[(6,K10)]) (.lf 0 ([(0,K21),(3,K0),(9,K21),(10,K0),(11,K0)],[(0,K21),(3,K0)])) .leaf)) .leaf) (.lf 191 (.lf 0 ([(0,K23),(3,.b T71 71 []),(4,K0),(7,K0),(8,K0)],[(4,K0)])))) (.node 195 (.lf 0 ([(0,K1),(1,K1),(4,K2),(12,K0),(13,K0)],[(4,K2)])) (.lf 194 (.lf 0 ([(0,K1),(2,K0),(3,K15),(8,K13),(9,K0),(10,K0)],[(0,K1),(2,K0),(3,K15)]))) (.lf 208 (.lf 0 ([(0,K4),(1,K4),(5,K8),(6,K0),(7,K0)],[(0,K4),(1,K4),(5,K8),(6,K0),(7,K0)]))))) (.node 255 (.lf 0 ([(0,K1),(1,.f),(4,K0),(7,K0),(8,K0)],[(4,K0)])) (.node 229 (.lf 0 ([(0,K7),(1,K7),(4,K2),(12,K0),(13,K0)],[(4,K2)])) (.lf 221 (.lf 0 ([(0,K9),(1,.f),(4,K0),(7,K0),(8,K0)],[(4,K0)]))) (.lf 249 (.lf 0 ([(0,K16),(1,K14),(5,K27),(6,K0)],[(5,K27)])))) (.node 290 (.lf 0 ([(0,K16),(1,K32)],[(0,K16)])) (.lf 289 (.lf 0 ([(0,K16),(1,K32)],[(0,K16)]))) (.lf 296 (.lf 0 ([(0,K7),(1,K16),(4,K0),(7,K0),(8,K0)],[(4,K0)]))))))))
class Dfr where
 d_runs_All:(List Nd)→Option (List Tc×Int)
 d_runs_Find:(List Nd)→Tc→Option (List Int×Bool)
 d_move_ways:Option (List (Int×List (Int×Nat)))
 d_step_Put:(List Nd)→Int→(List Nd)→Option (List Nd)
 d_plot_Over:(List Nd)→Int→Option (List Int)
 d_trace_Mix:(List ByteArray)→(List ByteArray)→Option (List (List ByteArray))
def zrr [Dfr] (x0:List Nd):Option (List Tc×Int):=Dfr.d_runs_All x0
def xkq [Dfr]:Tup (sg 20).args→Option (Tup (sg 20).res):=fun x0=>zrr x0
def zpk [Dfr] (x0:List Nd) (x1:Tc):Option (List Int×Bool):=Dfr.d_runs_Find x0 x1
def xkp [Dfr]:Tup (sg 24).args→Option (Tup (sg 24).res):=fun ⟨x0,x1⟩=>zpk x0 x1
def zem (x0:List Nd):Option (List Nd):=bif zai x0.length 32 then some x0 else none
def xko:Tup (sg 39).args→Option (Tup (sg 39).res):=fun x0=>zem x0
def zbz (x0:List ByteArray):Option (List ByteArray):=bif zai x0.length 16 then some x0 else none
def xkn:Tup (sg 45).args→Option (Tup (sg 45).res):=fun x0=>zbz x0
def zpp [Dfr]  :Option (List (Int×List (Int×Nat))):=Dfr.d_move_ways
def xkm [Dfr]:Tup (sg 59).args→Option (Tup (sg 59).res):=fun ()=>zpp
def zrl [Dfr] (x0:List Nd) (x1:Int) (x2:List Nd):Option (List Nd):=Dfr.d_step_Put x0 x1 x2
def xkl [Dfr]:Tup (sg 72).args→Option (Tup (sg 72).res):=fun ⟨x0,x1,x2⟩=>zrl x0 x1 x2
def zdi (x0:List Tc):Option (List Tc):=bif zai x0.length 32 then some x0 else none
def xkk:Tup (sg 79).args→Option (Tup (sg 79).res):=fun x0=>zdi x0
def zvu [Dfr] (x0:List Nd) (x1:Int):Option (List Int):=Dfr.d_plot_Over x0 x1
def xfi [Dfr]:Tup (sg 103).args→Option (Tup (sg 103).res):=fun ⟨x0,x1⟩=>zvu x0 x1
def zvc [Dfr] (x0:List ByteArray) (x1:List ByteArray):Option (List (List ByteArray)):=Dfr.d_trace_Mix x0 x1
def xfh [Dfr]:Tup (sg 180).args→Option (Tup (sg 180).res):=fun ⟨x0,x1⟩=>zvc x0 x1
def zlg (x0:ByteArray) (x1:ByteArray):Option (ByteArray):=qoq x0 x1
def xfg:Tup (sg 277).args→Option (Tup (sg 277).res):=fun ⟨x0,x1⟩=>zlg x0 x1
def frT [Dfr] (f:Nat):Option (Tup (sg f).args→Option (Tup (sg f).res)):=if h:f=277 then some (by rw [h];exact xfg) else if h:f=180 then some (by rw [h];exact xfh) else if h:f=103 then some (by rw [h];exact xfi) else if h:f=79 then some (by rw [h];exact xkk) else if h:f=72 then some (by rw [h];exact xkl) else if h:f=59 then some (by rw [h];exact xkm) else if h:f=45 then some (by rw [h];exact xkn) else if h:f=39 then some (by rw [h];exact xko) else if h:f=24 then some (by rw [h];exact xkp) else if h:f=20 then some (by rw [h];exact xkq) else none
def qbl:List ByteArray:=[⟨#[115,107,105,112]⟩,⟨#[116,104,114,111,119]⟩,⟨#[121,105,101,108,100]⟩,⟨#[115,107,105,112,112]⟩,⟨#[116,104,114,111,119,119]⟩,⟨#[121,105,101,108,100,100]⟩]
def xlp (g:Nat):Option (TypeId×Ty×Nat):=bif Nat.beq g 0 then some (9,.str,6) else none
def yqu:(g:Nat)→(t:Ty)→List t.den:=fun _ t=>match t with| .str=>qbl|_=>[]
def xex:List Value:=[.int .u64 1,.int .u64 10,.int .u64 100,.int .u64 1000,.int .u64 10000,.int .u64 100000,.int .u64 1000000,.int .u64 10000000,.int .u64 100000000,.int .u64 1000000000,.int .u64 10000000000,.int .u64 100000000000,.int .u64 1000000000000,.int .u64 10000000000000,.int .u64 100000000000000,.int .u64 1000000000000000,.int .u64 10000000000000000,.int .u64 100000000000000000,.int .u64 1000000000000000000,.int .u64 10000000000000000000]
def tabT (g:Nat):Option (List Value):=bif Nat.beq g 1 then some xex else none
def xgp (f:Nat):Option (Bool×TypeId×Ty):=if f=80 then some (false,33,T33) else if f=81 then some (true,33,T33) else if f=227 then some (false,26,(.slice 9 .str)) else if f=228 then some (true,26,(.slice 9 .str)) else if f=233 then some (false,139,T139) else if f=234 then some (true,139,T139) else none
def xgx (f:Nat):Option (TypeId×Ty):=if f=220 then some (3,(.int .i64)) else none
noncomputable def E [Dfr]:Env:={fn:=fnT.find,sig:=sg,ti:=tiT.find,shape:=fun f b=>(xjr.find f).bind (·.find b),glob:=xlp,yqu:=yqu,foreign:=frT,rows:=xgp,revs:=xgx,tab:=tabT}
abbrev yqn:Nat:=3
abbrev yrv:Nat:=4
abbrev yqo:Nat:=5
abbrev yru:Nat:=6
abbrev yns:Nat:=7
abbrev yqp:Nat:=8
abbrev ynr:Nat:=9
abbrev xfe:Nat:=10
abbrev yzb:Nat:=11
abbrev xdz:Nat:=12
abbrev xar:Nat:=13
abbrev xai:Nat:=14
abbrev yyd:Nat:=15
abbrev xcd:Nat:=16
abbrev yrt:Nat:=17
abbrev xbj:Nat:=18
abbrev yvy:Nat:=19
abbrev xgo:Nat:=20
abbrev xeh:Nat:=21
abbrev xbm:Nat:=22
abbrev xce:Nat:=23
abbrev xea:Nat:=24
abbrev xas:Nat:=25
abbrev xba:Nat:=26
abbrev yyh:Nat:=27
abbrev yvl:Nat:=28
abbrev yyp:Nat:=29
abbrev xew:Nat:=30
abbrev xef:Nat:=31
abbrev yrl:Nat:=32
abbrev xdi:Nat:=33
abbrev ytf:Nat:=34
abbrev xbz:Nat:=35
abbrev xca:Nat:=36
abbrev yyt:Nat:=37
abbrev yzn:Nat:=38
abbrev qvi:Nat:=39
abbrev xfc:Nat:=40
abbrev xdn:Nat:=41
abbrev xaw:Nat:=42
abbrev xav:Nat:=43
abbrev yte:Nat:=44
abbrev yad:Nat:=45
abbrev xet:Nat:=46
abbrev xah:Nat:=47
abbrev xdg:Nat:=48
abbrev yyc:Nat:=50
abbrev yuf:Nat:=51
abbrev xdy:Nat:=52
abbrev xev:Nat:=53
abbrev yyb:Nat:=54
abbrev yrp:Nat:=55
abbrev xaq:Nat:=56
abbrev yyq:Nat:=57
abbrev yud:Nat:=58
abbrev xfb:Nat:=59
abbrev yze:Nat:=60
abbrev yac:Nat:=61
abbrev zjv:Nat:=62
abbrev qfz:Nat:=63
abbrev qep:Nat:=64
abbrev yzw:Nat:=65
abbrev yro:Nat:=66
abbrev qwb:Nat:=67
abbrev qjc:Nat:=68
abbrev xbh:Nat:=69
abbrev xdt:Nat:=70
abbrev xiy:Nat:=71
abbrev xgd:Nat:=72
abbrev xdl:Nat:=73
abbrev xgz:Nat:=74
abbrev xei:Nat:=75
abbrev xat:Nat:=76
abbrev xiu:Nat:=77
abbrev ypi:Nat:=78
abbrev qou:Nat:=79
abbrev zvb:Nat:=82
abbrev yzm:Nat:=85
abbrev xhc:Nat:=86
abbrev yrq:Nat:=87
abbrev yym:Nat:=88
abbrev xbk:Nat:=89
abbrev xbf:Nat:=90
abbrev xes:Nat:=91
abbrev yyl:Nat:=92
abbrev yyn:Nat:=93
abbrev xel:Nat:=94
abbrev yuc:Nat:=95
abbrev xbb:Nat:=96
abbrev xhd:Nat:=97
abbrev xbe:Nat:=98
abbrev zay:Nat:=99
abbrev zfu:Nat:=100
abbrev zra:Nat:=101
abbrev qqu:Nat:=102
abbrev xey:Nat:=103
abbrev zuw:Nat:=104
abbrev xic:Nat:=105
abbrev xfk:Nat:=106
abbrev yin:Nat:=107
abbrev yzf:Nat:=108
abbrev zfi:Nat:=109
abbrev ylq:Nat:=110
abbrev qkk:Nat:=111
abbrev xds:Nat:=112
abbrev xee:Nat:=113
abbrev yrm:Nat:=114
abbrev xgw:Nat:=115
abbrev xfd:Nat:=116
abbrev ztr:Nat:=117
abbrev zth:Nat:=118
abbrev qnt:Nat:=119
abbrev qat:Nat:=120
abbrev ztg:Nat:=121
abbrev yza:Nat:=122
abbrev yyz:Nat:=123
abbrev yyv:Nat:=124
abbrev xix:Nat:=125
abbrev xab:Nat:=126
abbrev qot:Nat:=127
abbrev xgt:Nat:=128
abbrev yxy:Nat:=129
abbrev xdm:Nat:=130
abbrev xgv:Nat:=131
abbrev xbi:Nat:=132
abbrev xeq:Nat:=133
abbrev xer:Nat:=134
abbrev xau:Nat:=135
abbrev xit:Nat:=136
abbrev xiw:Nat:=137
abbrev xgu:Nat:=138
abbrev qxg:Nat:=142
abbrev yyu:Nat:=143
abbrev yyx:Nat:=144
abbrev yue:Nat:=145
abbrev xep:Nat:=146
abbrev yyk:Nat:=147
abbrev xem:Nat:=148
abbrev xen:Nat:=149
abbrev yyi:Nat:=150
abbrev xeo:Nat:=151
abbrev xbl:Nat:=152
abbrev xeu:Nat:=153
abbrev yye:Nat:=154
abbrev xhb:Nat:=155
abbrev xaz:Nat:=156
abbrev yub:Nat:=157
abbrev yyr:Nat:=158
abbrev xhe:Nat:=159
abbrev xbc:Nat:=160
abbrev yyf:Nat:=161
abbrev xej:Nat:=162
abbrev yyg:Nat:=163
abbrev yzd:Nat:=164
abbrev qif:Nat:=165
abbrev qfj:Nat:=166
abbrev qxe:Nat:=167
abbrev ydp:Nat:=169
abbrev yqz:Nat:=170
abbrev yya:Nat:=171
abbrev yrn:Nat:=172
abbrev ytc:Nat:=173
abbrev xae:Nat:=174
abbrev xad:Nat:=175
abbrev ytd:Nat:=176
abbrev xeg:Nat:=177
abbrev qqt:Nat:=178
abbrev xdu:Nat:=179
abbrev xdh:Nat:=180
abbrev xby:Nat:=181
abbrev zxv:Nat:=182
abbrev zqy:Nat:=183
abbrev qqv:Nat:=184
abbrev zqx:Nat:=185
abbrev zuu:Nat:=186
abbrev zut:Nat:=187
abbrev zwi:Nat:=188
abbrev zqw:Nat:=189
abbrev xhs:Nat:=190
abbrev qvf:Nat:=191
abbrev quw:Nat:=192
abbrev xec:Nat:=193
abbrev xdq:Nat:=194
abbrev qvh:Nat:=195
abbrev ydo:Nat:=207
abbrev yyj:Nat:=208
abbrev yyw:Nat:=209
abbrev xbn:Nat:=210
abbrev xha:Nat:=211
abbrev xay:Nat:=212
abbrev yys:Nat:=213
abbrev yyo:Nat:=214
abbrev yug:Nat:=215
abbrev yrs:Nat:=216
abbrev ypy:Nat:=217
abbrev xbd:Nat:=218
abbrev xek:Nat:=219
abbrev qml:Nat:=221
abbrev yzc:Nat:=222
abbrev xhi:Nat:=224
abbrev yio:Nat:=225
abbrev zgj:Nat:=229
abbrev qcf:Nat:=230
abbrev qvg:Nat:=231
abbrev zlj:Nat:=232
abbrev zze:Nat:=235
abbrev qxf:Nat:=236
abbrev zvp:Nat:=237
abbrev xed:Nat:=238
abbrev qkl:Nat:=239
abbrev xdr:Nat:=240
abbrev yxz:Nat:=241
abbrev yrr:Nat:=248
abbrev yyy:Nat:=249
abbrev xhf:Nat:=250
abbrev xbg:Nat:=251
abbrev xeb:Nat:=254
abbrev qns:Nat:=255
abbrev ysm:Nat:=277
abbrev quv:Nat:=278
abbrev qzq:Nat:=289
abbrev qxc:Nat:=290
abbrev yab:Nat:=296
end Go.Proofs.YtjolkdjkhekbnaaGreatDoor.Sv
