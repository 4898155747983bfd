/- The tables of the seat are those of the program: checked by the kernel. Written by a program (emit3.py). -/
import Derived.Test.YtabhofdbgmdjkaaGreatDoorSvE
import Derived.Test.YtabhofdbgmdjkaaGreatDoorSvT
import Derived.Test.YtabhofdbgmdjkaaGreatDoorSvS
import Derived.Test.YtabhofdbgmdjkaaGreatDoorEv8
namespace Go.Proofs.YtabhofdbgmdjkaaGreatDoor.Sv
open Go Go.Sv Go.Proofs
set_option linter.unusedVariables false
set_option maxRecDepth 100000
set_option maxHeartbeats 4000000
class DfrOK [Dfr] : Prop where
  c_trace_Mix : Callable Tryz.prog 109 ∧ ∀ x r, frn109 x = some r → Contract Tryz.prog E 109 x r
/-- A contract hangs not on what is asked of others. -/
theorem contract_any {d d' : Dfr} {f : Nat} {x : Tup (sg f).args} {r : Tup (sg f).res} (h : Contract Tryz.prog (@E d) f x r) : Contract Tryz.prog (@E d') f x r := fun w F0 G A vs hA => h w F0 G A vs ⟨hA.rel, hA.bx, hA.tgm, hA.tgi, hA.f0, hA.glob⟩
theorem rows [Dfr] : (tiT.list.all fun p => rowIs Tryz.prog p.1 p.2) = true := by kernel_rfl
theorem eqRows [Dfr] : (tiT.list.all fun p => !p.2.eq || Nat.beq p.1 48) = true := by kernel_rfl
theorem eq48 [Dfr] : (T48).flat = true ∧ ∀ (w : World) (op : BinOp) (x y : Operand) (a b : (T48).den), (eqGuard op 48 x y (.agg (flatVals T48 a).toArray) (.agg (flatVals T48 b).toArray)).run Tryz.prog w = .ok () w ∧ (Op.equalIn 10000 48 (.agg (flatVals T48 a).toArray) (.agg (flatVals T48 b).toArray)).run Tryz.prog w = .ok (eqD T48 a b) w := eq_fit rfl (by kernel_rfl) (by kernel_rfl) (by kernel_rfl) (by kernel_rfl)
theorem types [Dfr] : TypesOK Tryz.prog E := ⟨fun t i h => by
  have hm : (t, i) ∈ tiT.list := Tree.find_mem h
  refine rowIs_ok (List.all_eq_true.1 rows _ hm) fun he u hu => ?_
  have h1 := List.all_eq_true.1 eqRows _ hm
  simp only [he, Bool.not_true, Bool.false_or] at h1
  have h2 : t = 48 := Nat.eq_of_beq_eq_true h1
  subst h2
  cases h.symm.trans (show E.ti 48 = some _ from rfl)
  cases hu
  exact eq48⟩
theorem rowsRun51 [Dfr] : RowsRun Tryz.prog E 51 false 46 T46 := sortRuns_agg (ρ := Tryz.sort51_ren) Tryz.sort51 rfl Tryz.isAgg46 Tryz.sizeOf46 ⟨Tryz.f51, Tryz.func51, by kernel_rfl, by kernel_rfl⟩
theorem rowsRun53 [Dfr] : RowsRun Tryz.prog E 53 true 46 T46 := compactRuns_agg (T := 25) (e := 46) (B := 4) (I := 3) (FT := 84) (U := 0) ⟨by kernel_rfl, Tryz.underlying0, Tryz.underlying3, Tryz.underlying4, Tryz.underlying25, ⟨_, _, Tryz.underlying84⟩, Tryz.isAgg0, Tryz.isAgg3, Tryz.isAgg4, Tryz.isAgg25, Tryz.isAgg84, Tryz.sizeOf3, Tryz.sizeOf4, Tryz.sizeOf25, Tryz.sizeOf84⟩ ⟨Tryz.f53.name, by decide, Tryz.func53.trans (congrArg some (by kernel_rfl))⟩ rfl Tryz.isAgg46 Tryz.sizeOf46 _ Tryz.zeroValue46 rfl (by decide) ⟨Tryz.f53, Tryz.func53, by kernel_rfl, by kernel_rfl⟩
theorem rowsRun119 [Dfr] : RowsRun Tryz.prog E 119 false 62 T62 := sortRuns_agg (ρ := Tryz.sort119_ren) Tryz.sort119 rfl Tryz.isAgg62 Tryz.sizeOf62 ⟨Tryz.f119, Tryz.func119, by kernel_rfl, by kernel_rfl⟩
theorem rowsRun120 [Dfr] : RowsRun Tryz.prog E 120 true 62 T62 := compactRuns_agg (T := 34) (e := 62) (B := 4) (I := 3) (FT := 138) (U := 0) ⟨by kernel_rfl, Tryz.underlying0, Tryz.underlying3, Tryz.underlying4, Tryz.underlying34, ⟨_, _, Tryz.underlying138⟩, Tryz.isAgg0, Tryz.isAgg3, Tryz.isAgg4, Tryz.isAgg34, Tryz.isAgg138, Tryz.sizeOf3, Tryz.sizeOf4, Tryz.sizeOf34, Tryz.sizeOf138⟩ ⟨Tryz.f120.name, by decide, Tryz.func120.trans (congrArg some (by kernel_rfl))⟩ rfl Tryz.isAgg62 Tryz.sizeOf62 _ Tryz.zeroValue62 rfl (by decide) ⟨Tryz.f120, Tryz.func120, by kernel_rfl, by kernel_rfl⟩
theorem rowsRun142 [Dfr] : RowsRun Tryz.prog E 142 false 44 ((.slice 9 .str)) := sortRuns_one (ρ := Tryz.sort142_ren) Tryz.sort142 rfl ⟨Tryz.f142, Tryz.func142, by kernel_rfl, by kernel_rfl⟩
theorem rowsRun143 [Dfr] : RowsRun Tryz.prog E 143 true 44 ((.slice 9 .str)) := compactRuns_one (T := 129) (e := 44) (B := 4) (I := 3) (FT := 159) (U := 0) ⟨by kernel_rfl, Tryz.underlying0, Tryz.underlying3, Tryz.underlying4, Tryz.underlying129, ⟨_, _, Tryz.underlying159⟩, Tryz.isAgg0, Tryz.isAgg3, Tryz.isAgg4, Tryz.isAgg129, Tryz.isAgg159, Tryz.sizeOf3, Tryz.sizeOf4, Tryz.sizeOf129, Tryz.sizeOf159⟩ ⟨Tryz.f143.name, by decide, Tryz.func143.trans (congrArg some (by kernel_rfl))⟩ rfl Tryz.isAgg44 Tryz.sizeOf44 _ Tryz.zeroValue44 rfl (by decide) ⟨Tryz.f143, Tryz.func143, by kernel_rfl, by kernel_rfl⟩
theorem rowsOK [Dfr] : RowsOK Tryz.prog E := fun f b e u h => by
  have h' : rowsT f = some (b, e, u) := h
  unfold rowsT at h'
  split at h'
  · rename_i hf
    subst hf
    cases h'
    exact rowsRun51
  split at h'
  · rename_i hf
    subst hf
    cases h'
    exact rowsRun53
  split at h'
  · rename_i hf
    subst hf
    cases h'
    exact rowsRun119
  split at h'
  · rename_i hf
    subst hf
    cases h'
    exact rowsRun120
  split at h'
  · rename_i hf
    subst hf
    cases h'
    exact rowsRun142
  split at h'
  · rename_i hf
    subst hf
    cases h'
    exact rowsRun143
  cases h'
theorem revsOK [Dfr] : RevsOK Tryz.prog E := fun f e u h => by
  have h' : revsT f = some (e, u) := h
  unfold revsT at h'
  cases h'
theorem tab [Dfr] : TabOK Tryz.prog E := ⟨by kernel_rfl, types, elemIs_ok fun t i h => List.all_eq_true.1 rows _ (Tree.find_mem h), rowsOK, pins_none fun _ _ _ _ _ _ => rfl, revsOK⟩
theorem dsts [Dfr] : (fnT.list.all fun p => !(p.2.name == "runtime.NumGoroutine") && (match p.2.body with | some c => dstsOK p.2.ntmps c | none => true)) = true := by kernel_rfl
theorem funcs [Dfr] : ∀ p ∈ fnT.list, Tryz.prog.funcs[p.1]? = some p.2 := by
  show ∀ p ∈ [(75, Tryz.f75), (37, Tryz.f37), (20, Tryz.f20), (11, Tryz.f11), (7, Tryz.f7), (5, Tryz.f5), (4, Tryz.f4), (3, Tryz.f3), (6, Tryz.f6), (9, Tryz.f9), (8, Tryz.f8), (10, Tryz.f10), (16, Tryz.f16), (14, Tryz.f14), (13, Tryz.f13), (12, Tryz.f12), (15, Tryz.f15), (18, Tryz.f18), (17, Tryz.f17), (19, Tryz.f19), (29, Tryz.f29), (25, Tryz.f25), (23, Tryz.f23), (22, Tryz.f22), (21, Tryz.f21), (24, Tryz.f24), (27, Tryz.f27), (26, Tryz.f26), (28, Tryz.f28), (33, Tryz.f33), (31, Tryz.f31), (30, Tryz.f30), (32, Tryz.f32), (35, Tryz.f35), (34, Tryz.f34), (36, Tryz.f36), (58, Tryz.f58), (46, Tryz.f46), (42, Tryz.f42), (40, Tryz.f40), (39, Tryz.f39), (38, Tryz.f38), (41, Tryz.f41), (44, Tryz.f44), (43, Tryz.f43), (45, Tryz.f45), (54, Tryz.f54), (49, Tryz.f49), (48, Tryz.f48), (47, Tryz.f47), (52, Tryz.f52), (56, Tryz.f56), (55, Tryz.f55), (57, Tryz.f57), (67, Tryz.f67), (63, Tryz.f63), (61, Tryz.f61), (60, Tryz.f60), (59, Tryz.f59), (62, Tryz.f62), (65, Tryz.f65), (64, Tryz.f64), (66, Tryz.f66), (71, Tryz.f71), (69, Tryz.f69), (68, Tryz.f68), (70, Tryz.f70), (73, Tryz.f73), (72, Tryz.f72), (74, Tryz.f74), (115, Tryz.f115), (93, Tryz.f93), (84, Tryz.f84), (80, Tryz.f80), (78, Tryz.f78), (77, Tryz.f77), (76, Tryz.f76), (79, Tryz.f79), (82, Tryz.f82), (81, Tryz.f81), (83, Tryz.f83), (89, Tryz.f89), (87, Tryz.f87), (86, Tryz.f86), (85, Tryz.f85), (88, Tryz.f88), (91, Tryz.f91), (90, Tryz.f90), (92, Tryz.f92), (106, Tryz.f106), (100, Tryz.f100), (98, Tryz.f98), (97, Tryz.f97), (94, Tryz.f94), (99, Tryz.f99), (102, Tryz.f102), (101, Tryz.f101), (103, Tryz.f103), (111, Tryz.f111), (108, Tryz.f108), (107, Tryz.f107), (110, Tryz.f110), (113, Tryz.f113), (112, Tryz.f112), (114, Tryz.f114), (148, Tryz.f148), (126, Tryz.f126), (122, Tryz.f122), (118, Tryz.f118), (117, Tryz.f117), (116, Tryz.f116), (121, Tryz.f121), (124, Tryz.f124), (123, Tryz.f123), (125, Tryz.f125), (144, Tryz.f144), (139, Tryz.f139), (138, Tryz.f138), (127, Tryz.f127), (140, Tryz.f140), (146, Tryz.f146), (145, Tryz.f145), (147, Tryz.f147), (164, Tryz.f164), (160, Tryz.f160), (152, Tryz.f152), (151, Tryz.f151), (149, Tryz.f149), (158, Tryz.f158), (162, Tryz.f162), (161, Tryz.f161), (163, Tryz.f163), (186, Tryz.f186), (166, Tryz.f166), (165, Tryz.f165), (176, Tryz.f176), (191, Tryz.f191), (190, Tryz.f190), (197, Tryz.f197)], Tryz.prog.funcs[p.1]? = some p.2
  intro p hp
  simp only [List.mem_cons, List.not_mem_nil, or_false] at hp
  rcases hp with rfl | rfl | rfl | rfl | rfl | rfl | rfl | rfl | rfl | rfl | rfl | rfl | rfl | rfl | rfl | rfl | rfl | rfl | rfl | rfl | rfl | rfl | rfl | rfl | rfl | rfl | rfl | rfl | rfl | rfl | rfl | rfl | rfl | rfl | rfl | rfl | rfl | rfl | rfl | rfl | rfl | rfl | rfl | rfl | rfl | rfl | rfl | rfl | rfl | rfl | rfl | rfl | rfl | rfl | rfl | rfl | rfl | rfl | rfl | rfl | rfl | rfl | rfl | rfl | rfl | rfl | rfl | rfl | rfl | rfl | rfl | rfl | rfl | rfl | rfl | rfl | rfl | rfl | rfl | rfl | rfl | rfl | rfl | rfl | rfl | rfl | rfl | rfl | rfl | rfl | rfl | rfl | rfl | rfl | rfl | rfl | rfl | rfl | rfl | rfl | rfl | rfl | rfl | rfl | rfl | rfl | rfl | rfl | rfl | rfl | rfl | rfl | rfl | rfl | rfl | rfl | rfl | rfl | rfl | rfl | rfl | rfl | rfl | rfl | rfl | rfl | rfl | rfl | rfl | rfl | rfl | rfl | rfl | rfl | rfl | rfl | rfl | rfl | rfl
  · exact Tryz.func75
  · exact Tryz.func37
  · exact Tryz.func20
  · exact Tryz.func11
  · exact Tryz.func7
  · exact Tryz.func5
  · exact Tryz.func4
  · exact Tryz.func3
  · exact Tryz.func6
  · exact Tryz.func9
  · exact Tryz.func8
  · exact Tryz.func10
  · exact Tryz.func16
  · exact Tryz.func14
  · exact Tryz.func13
  · exact Tryz.func12
  · exact Tryz.func15
  · exact Tryz.func18
  · exact Tryz.func17
  · exact Tryz.func19
  · exact Tryz.func29
  · exact Tryz.func25
  · exact Tryz.func23
  · exact Tryz.func22
  · exact Tryz.func21
  · exact Tryz.func24
  · exact Tryz.func27
  · exact Tryz.func26
  · exact Tryz.func28
  · exact Tryz.func33
  · exact Tryz.func31
  · exact Tryz.func30
  · exact Tryz.func32
  · exact Tryz.func35
  · exact Tryz.func34
  · exact Tryz.func36
  · exact Tryz.func58
  · exact Tryz.func46
  · exact Tryz.func42
  · exact Tryz.func40
  · exact Tryz.func39
  · exact Tryz.func38
  · exact Tryz.func41
  · exact Tryz.func44
  · exact Tryz.func43
  · exact Tryz.func45
  · exact Tryz.func54
  · exact Tryz.func49
  · exact Tryz.func48
  · exact Tryz.func47
  · exact Tryz.func52
  · exact Tryz.func56
  · exact Tryz.func55
  · exact Tryz.func57
  · exact Tryz.func67
  · exact Tryz.func63
  · exact Tryz.func61
  · exact Tryz.func60
  · exact Tryz.func59
  · exact Tryz.func62
  · exact Tryz.func65
  · exact Tryz.func64
  · exact Tryz.func66
  · exact Tryz.func71
  · exact Tryz.func69
  · exact Tryz.func68
  · exact Tryz.func70
  · exact Tryz.func73
  · exact Tryz.func72
  · exact Tryz.func74
  · exact Tryz.func115
  · exact Tryz.func93
  · exact Tryz.func84
  · exact Tryz.func80
  · exact Tryz.func78
  · exact Tryz.func77
  · exact Tryz.func76
  · exact Tryz.func79
  · exact Tryz.func82
  · exact Tryz.func81
  · exact Tryz.func83
  · exact Tryz.func89
  · exact Tryz.func87
  · exact Tryz.func86
  · exact Tryz.func85
  · exact Tryz.func88
  · exact Tryz.func91
  · exact Tryz.func90
  · exact Tryz.func92
  · exact Tryz.func106
  · exact Tryz.func100
  · exact Tryz.func98
  · exact Tryz.func97
  · exact Tryz.func94
  · exact Tryz.func99
  · exact Tryz.func102
  · exact Tryz.func101
  · exact Tryz.func103
  · exact Tryz.func111
  · exact Tryz.func108
  · exact Tryz.func107
  · exact Tryz.func110
  · exact Tryz.func113
  · exact Tryz.func112
  · exact Tryz.func114
  · exact Tryz.func148
  · exact Tryz.func126
  · exact Tryz.func122
  · exact Tryz.func118
  · exact Tryz.func117
  · exact Tryz.func116
  · exact Tryz.func121
  · exact Tryz.func124
  · exact Tryz.func123
  · exact Tryz.func125
  · exact Tryz.func144
  · exact Tryz.func139
  · exact Tryz.func138
  · exact Tryz.func127
  · exact Tryz.func140
  · exact Tryz.func146
  · exact Tryz.func145
  · exact Tryz.func147
  · exact Tryz.func164
  · exact Tryz.func160
  · exact Tryz.func152
  · exact Tryz.func151
  · exact Tryz.func149
  · exact Tryz.func158
  · exact Tryz.func162
  · exact Tryz.func161
  · exact Tryz.func163
  · exact Tryz.func186
  · exact Tryz.func166
  · exact Tryz.func165
  · exact Tryz.func176
  · exact Tryz.func191
  · exact Tryz.func190
  · exact Tryz.func197
theorem fns [Dfr] : ∀ f fn, E.fn f = some fn → Tryz.prog.funcs[f]? = some fn ∧ (fn.name == "runtime.NumGoroutine") = false ∧ ∀ c, fn.body = some c → dstsOK fn.ntmps c = true := fun f fn h => by
  have hm : (f, fn) ∈ fnT.list := Tree.find_mem h
  have h1 := List.all_eq_true.1 dsts _ hm
  simp only [Bool.and_eq_true, Bool.not_eq_true'] at h1
  exact ⟨funcs _ hm, h1.1, fun c hc => by have h2 := h1.2; rw [hc] at h2; exact h2⟩
theorem foreign50 [Dfr] : Callable Tryz.prog 50 ∧ ∀ x r, frn50 x = some r → Contract Tryz.prog E 50 x r := by
  refine ⟨⟨Tryz.f50, Tryz.func50, by kernel_rfl, by kernel_rfl⟩, fun x r h => ?_⟩
  have h' : (bif roomOk (List.length x) 32 then some x else none) = some r := h
  cases hr : roomOk (List.length x) 32 with
  | false => rw [hr] at h'; cases h'
  | true =>
    rw [hr] at h'
    cases h'
    exact clone_contract tab Tryz.func50 rfl rfl rfl rfl (show E.sig 50 = _ from rfl) (show E.ti 25 = some _ from rfl) rfl rfl (show E.ti 46 = some _ from rfl) (by decide) rfl rfl HEq.rfl HEq.rfl hr rfl
theorem foreign104 [Dfr] : Callable Tryz.prog 104 ∧ ∀ x r, frn104 x = some r → Contract Tryz.prog E 104 x r := by
  refine ⟨⟨Tryz.f104, Tryz.func104, by kernel_rfl, by kernel_rfl⟩, fun x r h => ?_⟩
  have h' : (bif roomOk (List.length x) 32 then some x else none) = some r := h
  cases hr : roomOk (List.length x) 32 with
  | false => rw [hr] at h'; cases h'
  | true =>
    rw [hr] at h'
    cases h'
    exact clone_contract tab Tryz.func104 rfl rfl rfl rfl (show E.sig 104 = _ from rfl) (show E.ti 22 = some _ from rfl) rfl rfl (show E.ti 48 = some _ from rfl) (by decide) rfl rfl HEq.rfl HEq.rfl hr rfl
theorem foreign105 [Dfr] : Callable Tryz.prog 105 ∧ ∀ x r, frn105 x = some r → Contract Tryz.prog E 105 x r := by
  refine ⟨⟨Tryz.f105, Tryz.func105, by kernel_rfl, by kernel_rfl⟩, fun x r h => ?_⟩
  have h' : (bif roomOk (List.length x) 16 then some x else none) = some r := h
  cases hr : roomOk (List.length x) 16 with
  | false => rw [hr] at h'; cases h'
  | true =>
    rw [hr] at h'
    cases h'
    exact clone_contract tab Tryz.func105 rfl rfl rfl rfl (show E.sig 105 = _ from rfl) (show E.ti 44 = some _ from rfl) rfl rfl (show E.ti 9 = some _ from rfl) (by decide) rfl rfl HEq.rfl HEq.rfl hr rfl
theorem foreign175 [Dfr] : Callable Tryz.prog 175 ∧ ∀ x r, frn175 x = some r → Contract Tryz.prog E 175 x r :=
  ⟨⟨Tryz.f175, Tryz.func175, by kernel_rfl, by kernel_rfl⟩, fun x r h => trim_contract (E := E) (f := 175) rfl (fun s c w h1 h2 h3 => trim_drawn Tryz.lays160 (by kernel_rfl) s c w h1 h2 (ascii_of_all h3)) x r x r HEq.rfl HEq.rfl h⟩
theorem foreigns [Dfr] [DfrOK] : ∀ f g, E.foreign f = some g → Callable Tryz.prog f ∧ ∀ x r, g x = some r → Contract Tryz.prog E f x r := fun f g h => by
  have h' : frT f = some g := h
  unfold frT at h'
  split at h'
  · rename_i hf
    subst hf
    cases h'
    exact foreign175
  split at h'
  · rename_i hf
    subst hf
    cases h'
    exact DfrOK.c_trace_Mix
  split at h'
  · rename_i hf
    subst hf
    cases h'
    exact foreign105
  split at h'
  · rename_i hf
    subst hf
    cases h'
    exact foreign104
  split at h'
  · rename_i hf
    subst hf
    cases h'
    exact foreign50
  cases h'
theorem envOK [Dfr] [DfrOK] : EnvOK Tryz.prog E := ⟨tab, fns, foreigns⟩
end Go.Proofs.YtabhofdbgmdjkaaGreatDoor.Sv
