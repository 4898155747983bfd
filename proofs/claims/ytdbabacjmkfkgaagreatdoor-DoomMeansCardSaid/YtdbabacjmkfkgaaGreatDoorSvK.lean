/- The tables of the seat are those of the program: checked by the kernel. Written by a program (emit3.py). -/
import Derived.Test.YtdbabacjmkfkgaaGreatDoorSvE
import Derived.Test.YtdbabacjmkfkgaaGreatDoorSvT
import Derived.Test.YtdbabacjmkfkgaaGreatDoorSvS
import Derived.Test.YtdbabacjmkfkgaaGreatDoorEv8
namespace Go.Proofs.YtdbabacjmkfkgaaGreatDoor.Sv
open Go Go.Sv Go.Proofs
set_option linter.unusedVariables false
set_option maxRecDepth 100000
set_option maxHeartbeats 4000000
class DfrOK [Dfr] : Prop where
  c_plot_Over : Callable Tryz.prog 26 ∧ ∀ x r, frn26 x = some r → Contract Tryz.prog E 26 x r
  c_trace_Mix : Callable Tryz.prog 100 ∧ ∀ x r, frn100 x = some r → Contract Tryz.prog E 100 x r
/-- A contract hangs not on what is asked of others. -/
theorem contract_any {d d' : Dfr} {f : Nat} {x : Tup (sg f).args} {r : Tup (sg f).res} (h : Contract Tryz.prog (@E d) f x r) : Contract Tryz.prog (@E d') f x r := fun w F0 G A vs hA => h w F0 G A vs ⟨hA.rel, hA.bx, hA.tgm, hA.tgi, hA.f0, hA.glob⟩
theorem rows [Dfr] : (tiT.list.all fun p => rowIs Tryz.prog p.1 p.2) = true := by kernel_rfl
theorem eqRows [Dfr] : (tiT.list.all fun p => !p.2.eq || Nat.beq p.1 47) = true := by kernel_rfl
theorem eq47 [Dfr] : (T47).flat = true ∧ ∀ (w : World) (op : BinOp) (x y : Operand) (a b : (T47).den), (eqGuard op 47 x y (.agg (flatVals T47 a).toArray) (.agg (flatVals T47 b).toArray)).run Tryz.prog w = .ok () w ∧ (Op.equalIn 10000 47 (.agg (flatVals T47 a).toArray) (.agg (flatVals T47 b).toArray)).run Tryz.prog w = .ok (eqD T47 a b) w := eq_fit rfl (by kernel_rfl) (by kernel_rfl) (by kernel_rfl) (by kernel_rfl)
theorem types [Dfr] : TypesOK Tryz.prog E := ⟨fun t i h => by
  have hm : (t, i) ∈ tiT.list := Tree.find_mem h
  refine rowIs_ok (List.all_eq_true.1 rows _ hm) fun he u hu => ?_
  have h1 := List.all_eq_true.1 eqRows _ hm
  simp only [he, Bool.not_true, Bool.false_or] at h1
  have h2 : t = 47 := Nat.eq_of_beq_eq_true h1
  subst h2
  cases h.symm.trans (show E.ti 47 = some _ from rfl)
  cases hu
  exact eq47⟩
theorem rowsRun104 [Dfr] : RowsRun Tryz.prog E 104 false 41 T41 := sortRuns_agg (ρ := Tryz.sort104_ren) Tryz.sort104 rfl Tryz.isAgg41 Tryz.sizeOf41 ⟨Tryz.f104, Tryz.func104, by kernel_rfl, by kernel_rfl⟩
theorem rowsRun105 [Dfr] : RowsRun Tryz.prog E 105 true 41 T41 := compactRuns_agg (T := 33) (e := 41) (B := 4) (I := 3) (FT := 116) (U := 0) ⟨by kernel_rfl, Tryz.underlying0, Tryz.underlying3, Tryz.underlying4, Tryz.underlying33, ⟨_, _, Tryz.underlying116⟩, Tryz.isAgg0, Tryz.isAgg3, Tryz.isAgg4, Tryz.isAgg33, Tryz.isAgg116, Tryz.sizeOf3, Tryz.sizeOf4, Tryz.sizeOf33, Tryz.sizeOf116⟩ ⟨Tryz.f105.name, by decide, Tryz.func105.trans (congrArg some (by kernel_rfl))⟩ rfl Tryz.isAgg41 Tryz.sizeOf41 _ Tryz.zeroValue41 rfl (by decide) ⟨Tryz.f105, Tryz.func105, by kernel_rfl, by kernel_rfl⟩
theorem rowsRun109 [Dfr] : RowsRun Tryz.prog E 109 false 39 T39 := sortRuns_agg (ρ := Tryz.sort109_ren) Tryz.sort109 rfl Tryz.isAgg39 Tryz.sizeOf39 ⟨Tryz.f109, Tryz.func109, by kernel_rfl, by kernel_rfl⟩
theorem rowsRun111 [Dfr] : RowsRun Tryz.prog E 111 true 39 T39 := compactRuns_agg (T := 42) (e := 39) (B := 4) (I := 3) (FT := 122) (U := 0) ⟨by kernel_rfl, Tryz.underlying0, Tryz.underlying3, Tryz.underlying4, Tryz.underlying42, ⟨_, _, Tryz.underlying122⟩, Tryz.isAgg0, Tryz.isAgg3, Tryz.isAgg4, Tryz.isAgg42, Tryz.isAgg122, Tryz.sizeOf3, Tryz.sizeOf4, Tryz.sizeOf42, Tryz.sizeOf122⟩ ⟨Tryz.f111.name, by decide, Tryz.func111.trans (congrArg some (by kernel_rfl))⟩ rfl Tryz.isAgg39 Tryz.sizeOf39 _ Tryz.zeroValue39 rfl (by decide) ⟨Tryz.f111, Tryz.func111, by kernel_rfl, by kernel_rfl⟩
theorem rowsRun132 [Dfr] : RowsRun Tryz.prog E 132 false 37 ((.slice 9 .str)) := sortRuns_one (ρ := Tryz.sort132_ren) Tryz.sort132 rfl ⟨Tryz.f132, Tryz.func132, by kernel_rfl, by kernel_rfl⟩
theorem rowsRun134 [Dfr] : RowsRun Tryz.prog E 134 true 37 ((.slice 9 .str)) := compactRuns_one (T := 109) (e := 37) (B := 4) (I := 3) (FT := 139) (U := 0) ⟨by kernel_rfl, Tryz.underlying0, Tryz.underlying3, Tryz.underlying4, Tryz.underlying109, ⟨_, _, Tryz.underlying139⟩, Tryz.isAgg0, Tryz.isAgg3, Tryz.isAgg4, Tryz.isAgg109, Tryz.isAgg139, Tryz.sizeOf3, Tryz.sizeOf4, Tryz.sizeOf109, Tryz.sizeOf139⟩ ⟨Tryz.f134.name, by decide, Tryz.func134.trans (congrArg some (by kernel_rfl))⟩ rfl Tryz.isAgg37 Tryz.sizeOf37 _ Tryz.zeroValue37 rfl (by decide) ⟨Tryz.f134, Tryz.func134, by kernel_rfl, by kernel_rfl⟩
theorem rowsOK [Dfr] : RowsOK Tryz.prog E := fun f b e u h => by
  have h' : rowsT f = some (b, e, u) := h
  unfold rowsT at h'
  split at h'
  · rename_i hf
    subst hf
    cases h'
    exact rowsRun104
  split at h'
  · rename_i hf
    subst hf
    cases h'
    exact rowsRun105
  split at h'
  · rename_i hf
    subst hf
    cases h'
    exact rowsRun109
  split at h'
  · rename_i hf
    subst hf
    cases h'
    exact rowsRun111
  split at h'
  · rename_i hf
    subst hf
    cases h'
    exact rowsRun132
  split at h'
  · rename_i hf
    subst hf
    cases h'
    exact rowsRun134
  cases h'
theorem revRun55 [Dfr] : RevRun Tryz.prog 55 3 (.int .i64) := revRuns_int (ρ := Tryz.rev55_ren) Tryz.rev55 ⟨Tryz.f55, Tryz.func55, by kernel_rfl, by kernel_rfl⟩
theorem revsOK [Dfr] : RevsOK Tryz.prog E := fun f e u h => by
  have h' : revsT f = some (e, u) := h
  unfold revsT at h'
  split at h'
  · rename_i hf
    subst hf
    cases h'
    exact revRun55
  cases h'
theorem tab [Dfr] : TabOK Tryz.prog E := ⟨by kernel_rfl, types, elemIs_ok fun t i h => List.all_eq_true.1 rows _ (Tree.find_mem h), rowsOK, pins_none fun _ _ _ _ _ _ => rfl, revsOK⟩
theorem dsts [Dfr] : (fnT.list.all fun p => !(p.2.name == "runtime.NumGoroutine") && (match p.2.body with | some c => dstsOK p.2.ntmps c | none => true)) = true := by kernel_rfl
theorem funcs [Dfr] : ∀ p ∈ fnT.list, Tryz.prog.funcs[p.1]? = some p.2 := by
  show ∀ p ∈ [(76, Tryz.f76), (39, Tryz.f39), (20, Tryz.f20), (11, Tryz.f11), (7, Tryz.f7), (5, Tryz.f5), (4, Tryz.f4), (3, Tryz.f3), (6, Tryz.f6), (9, Tryz.f9), (8, Tryz.f8), (10, Tryz.f10), (16, Tryz.f16), (14, Tryz.f14), (13, Tryz.f13), (12, Tryz.f12), (15, Tryz.f15), (18, Tryz.f18), (17, Tryz.f17), (19, Tryz.f19), (30, Tryz.f30), (25, Tryz.f25), (23, Tryz.f23), (22, Tryz.f22), (21, Tryz.f21), (24, Tryz.f24), (28, Tryz.f28), (27, Tryz.f27), (29, Tryz.f29), (35, Tryz.f35), (33, Tryz.f33), (32, Tryz.f32), (31, Tryz.f31), (34, Tryz.f34), (37, Tryz.f37), (36, Tryz.f36), (38, Tryz.f38), (59, Tryz.f59), (48, Tryz.f48), (44, Tryz.f44), (42, Tryz.f42), (41, Tryz.f41), (40, Tryz.f40), (43, Tryz.f43), (46, Tryz.f46), (45, Tryz.f45), (47, Tryz.f47), (54, Tryz.f54), (52, Tryz.f52), (51, Tryz.f51), (50, Tryz.f50), (53, Tryz.f53), (57, Tryz.f57), (56, Tryz.f56), (58, Tryz.f58), (68, Tryz.f68), (64, Tryz.f64), (62, Tryz.f62), (61, Tryz.f61), (60, Tryz.f60), (63, Tryz.f63), (66, Tryz.f66), (65, Tryz.f65), (67, Tryz.f67), (72, Tryz.f72), (70, Tryz.f70), (69, Tryz.f69), (71, Tryz.f71), (74, Tryz.f74), (73, Tryz.f73), (75, Tryz.f75), (120, Tryz.f120), (97, Tryz.f97), (87, Tryz.f87), (82, Tryz.f82), (79, Tryz.f79), (78, Tryz.f78), (77, Tryz.f77), (80, Tryz.f80), (84, Tryz.f84), (83, Tryz.f83), (86, Tryz.f86), (92, Tryz.f92), (90, Tryz.f90), (89, Tryz.f89), (88, Tryz.f88), (91, Tryz.f91), (94, Tryz.f94), (93, Tryz.f93), (95, Tryz.f95), (112, Tryz.f112), (103, Tryz.f103), (101, Tryz.f101), (99, Tryz.f99), (98, Tryz.f98), (102, Tryz.f102), (107, Tryz.f107), (106, Tryz.f106), (110, Tryz.f110), (116, Tryz.f116), (114, Tryz.f114), (113, Tryz.f113), (115, Tryz.f115), (118, Tryz.f118), (117, Tryz.f117), (119, Tryz.f119), (144, Tryz.f144), (129, Tryz.f129), (125, Tryz.f125), (123, Tryz.f123), (122, Tryz.f122), (121, Tryz.f121), (124, Tryz.f124), (127, Tryz.f127), (126, Tryz.f126), (128, Tryz.f128), (140, Tryz.f140), (135, Tryz.f135), (133, Tryz.f133), (130, Tryz.f130), (139, Tryz.f139), (142, Tryz.f142), (141, Tryz.f141), (143, Tryz.f143), (173, Tryz.f173), (149, Tryz.f149), (147, Tryz.f147), (146, Tryz.f146), (145, Tryz.f145), (148, Tryz.f148), (152, Tryz.f152), (150, Tryz.f150), (154, Tryz.f154), (177, Tryz.f177), (175, Tryz.f175), (174, Tryz.f174), (176, Tryz.f176), (184, Tryz.f184), (178, Tryz.f178), (193, Tryz.f193)], Tryz.prog.funcs[p.1]? = some p.2
  intro p hp
  simp only [List.mem_cons, List.not_mem_nil, or_false] at hp
  rcases hp with rfl | rfl | rfl | rfl | rfl | rfl | rfl | rfl | rfl | rfl | rfl | rfl | rfl | rfl | rfl | rfl | rfl | rfl | rfl | rfl | rfl | rfl | rfl | rfl | rfl | rfl | rfl | rfl | rfl | rfl | rfl | rfl | rfl | rfl | rfl | rfl | rfl | rfl | rfl | rfl | rfl | rfl | rfl | rfl | rfl | rfl | rfl | rfl | rfl | rfl | rfl | rfl | rfl | rfl | rfl | rfl | rfl | rfl | rfl | rfl | rfl | rfl | rfl | rfl | rfl | rfl | rfl | rfl | rfl | rfl | rfl | rfl | rfl | rfl | rfl | rfl | rfl | rfl | rfl | rfl | rfl | rfl | rfl | rfl | rfl | rfl | rfl | rfl | rfl | rfl | rfl | rfl | rfl | rfl | rfl | rfl | rfl | rfl | rfl | rfl | rfl | rfl | rfl | rfl | rfl | rfl | rfl | rfl | rfl | rfl | rfl | rfl | rfl | rfl | rfl | rfl | rfl | rfl | rfl | rfl | rfl | rfl | rfl | rfl | rfl | rfl | rfl | rfl | rfl | rfl | rfl | rfl | rfl | rfl | rfl | rfl | rfl | rfl | rfl | rfl
  · exact Tryz.func76
  · exact Tryz.func39
  · exact Tryz.func20
  · exact Tryz.func11
  · exact Tryz.func7
  · exact Tryz.func5
  · exact Tryz.func4
  · exact Tryz.func3
  · exact Tryz.func6
  · exact Tryz.func9
  · exact Tryz.func8
  · exact Tryz.func10
  · exact Tryz.func16
  · exact Tryz.func14
  · exact Tryz.func13
  · exact Tryz.func12
  · exact Tryz.func15
  · exact Tryz.func18
  · exact Tryz.func17
  · exact Tryz.func19
  · exact Tryz.func30
  · exact Tryz.func25
  · exact Tryz.func23
  · exact Tryz.func22
  · exact Tryz.func21
  · exact Tryz.func24
  · exact Tryz.func28
  · exact Tryz.func27
  · exact Tryz.func29
  · exact Tryz.func35
  · exact Tryz.func33
  · exact Tryz.func32
  · exact Tryz.func31
  · exact Tryz.func34
  · exact Tryz.func37
  · exact Tryz.func36
  · exact Tryz.func38
  · exact Tryz.func59
  · exact Tryz.func48
  · exact Tryz.func44
  · exact Tryz.func42
  · exact Tryz.func41
  · exact Tryz.func40
  · exact Tryz.func43
  · exact Tryz.func46
  · exact Tryz.func45
  · exact Tryz.func47
  · exact Tryz.func54
  · exact Tryz.func52
  · exact Tryz.func51
  · exact Tryz.func50
  · exact Tryz.func53
  · exact Tryz.func57
  · exact Tryz.func56
  · exact Tryz.func58
  · exact Tryz.func68
  · exact Tryz.func64
  · exact Tryz.func62
  · exact Tryz.func61
  · exact Tryz.func60
  · exact Tryz.func63
  · exact Tryz.func66
  · exact Tryz.func65
  · exact Tryz.func67
  · exact Tryz.func72
  · exact Tryz.func70
  · exact Tryz.func69
  · exact Tryz.func71
  · exact Tryz.func74
  · exact Tryz.func73
  · exact Tryz.func75
  · exact Tryz.func120
  · exact Tryz.func97
  · exact Tryz.func87
  · exact Tryz.func82
  · exact Tryz.func79
  · exact Tryz.func78
  · exact Tryz.func77
  · exact Tryz.func80
  · exact Tryz.func84
  · exact Tryz.func83
  · exact Tryz.func86
  · exact Tryz.func92
  · exact Tryz.func90
  · exact Tryz.func89
  · exact Tryz.func88
  · exact Tryz.func91
  · exact Tryz.func94
  · exact Tryz.func93
  · exact Tryz.func95
  · exact Tryz.func112
  · exact Tryz.func103
  · exact Tryz.func101
  · exact Tryz.func99
  · exact Tryz.func98
  · exact Tryz.func102
  · exact Tryz.func107
  · exact Tryz.func106
  · exact Tryz.func110
  · exact Tryz.func116
  · exact Tryz.func114
  · exact Tryz.func113
  · exact Tryz.func115
  · exact Tryz.func118
  · exact Tryz.func117
  · exact Tryz.func119
  · exact Tryz.func144
  · exact Tryz.func129
  · exact Tryz.func125
  · exact Tryz.func123
  · exact Tryz.func122
  · exact Tryz.func121
  · exact Tryz.func124
  · exact Tryz.func127
  · exact Tryz.func126
  · exact Tryz.func128
  · exact Tryz.func140
  · exact Tryz.func135
  · exact Tryz.func133
  · exact Tryz.func130
  · exact Tryz.func139
  · exact Tryz.func142
  · exact Tryz.func141
  · exact Tryz.func143
  · exact Tryz.func173
  · exact Tryz.func149
  · exact Tryz.func147
  · exact Tryz.func146
  · exact Tryz.func145
  · exact Tryz.func148
  · exact Tryz.func152
  · exact Tryz.func150
  · exact Tryz.func154
  · exact Tryz.func177
  · exact Tryz.func175
  · exact Tryz.func174
  · exact Tryz.func176
  · exact Tryz.func184
  · exact Tryz.func178
  · exact Tryz.func193
theorem fns [Dfr] : ∀ f fn, E.fn f = some fn → Tryz.prog.funcs[f]? = some fn ∧ (fn.name == "runtime.NumGoroutine") = false ∧ ∀ c, fn.body = some c → dstsOK fn.ntmps c = true := fun f fn h => by
  have hm : (f, fn) ∈ fnT.list := Tree.find_mem h
  have h1 := List.all_eq_true.1 dsts _ hm
  simp only [Bool.and_eq_true, Bool.not_eq_true'] at h1
  exact ⟨funcs _ hm, h1.1, fun c hc => by have h2 := h1.2; rw [hc] at h2; exact h2⟩
theorem foreign85 [Dfr] : Callable Tryz.prog 85 ∧ ∀ x r, frn85 x = some r → Contract Tryz.prog E 85 x r := by
  refine ⟨⟨Tryz.f85, Tryz.func85, by kernel_rfl, by kernel_rfl⟩, fun x r h => ?_⟩
  have h' : (bif roomOk (List.length x) 32 then some x else none) = some r := h
  cases hr : roomOk (List.length x) 32 with
  | false => rw [hr] at h'; cases h'
  | true =>
    rw [hr] at h'
    cases h'
    exact clone_contract tab Tryz.func85 rfl rfl rfl rfl (show E.sig 85 = _ from rfl) (show E.ti 22 = some _ from rfl) rfl rfl (show E.ti 47 = some _ from rfl) (by decide) rfl rfl HEq.rfl HEq.rfl hr rfl
theorem foreign96 [Dfr] : Callable Tryz.prog 96 ∧ ∀ x r, frn96 x = some r → Contract Tryz.prog E 96 x r := by
  refine ⟨⟨Tryz.f96, Tryz.func96, by kernel_rfl, by kernel_rfl⟩, fun x r h => ?_⟩
  have h' : (bif roomOk (List.length x) 16 then some x else none) = some r := h
  cases hr : roomOk (List.length x) 16 with
  | false => rw [hr] at h'; cases h'
  | true =>
    rw [hr] at h'
    cases h'
    exact clone_contract tab Tryz.func96 rfl rfl rfl rfl (show E.sig 96 = _ from rfl) (show E.ti 37 = some _ from rfl) rfl rfl (show E.ti 9 = some _ from rfl) (by decide) rfl rfl HEq.rfl HEq.rfl hr rfl
theorem foreign108 [Dfr] : Callable Tryz.prog 108 ∧ ∀ x r, frn108 x = some r → Contract Tryz.prog E 108 x r := by
  refine ⟨⟨Tryz.f108, Tryz.func108, by kernel_rfl, by kernel_rfl⟩, fun x r h => ?_⟩
  have h' : (bif roomOk (List.length x) 32 then some x else none) = some r := h
  cases hr : roomOk (List.length x) 32 with
  | false => rw [hr] at h'; cases h'
  | true =>
    rw [hr] at h'
    cases h'
    exact clone_contract tab Tryz.func108 rfl rfl rfl rfl (show E.sig 108 = _ from rfl) (show E.ti 42 = some _ from rfl) rfl rfl (show E.ti 39 = some _ from rfl) (by decide) rfl rfl HEq.rfl HEq.rfl hr rfl
theorem foreign151 [Dfr] : Callable Tryz.prog 151 ∧ ∀ x r, frn151 x = some r → Contract Tryz.prog E 151 x r :=
  ⟨⟨Tryz.f151, Tryz.func151, by kernel_rfl, by kernel_rfl⟩, fun x r h => trim_contract (E := E) (f := 151) rfl (fun s c w h1 h2 h3 => trim_drawn Tryz.lays160 (by kernel_rfl) s c w h1 h2 (ascii_of_all h3)) x r x r HEq.rfl HEq.rfl h⟩
theorem foreigns [Dfr] [DfrOK] : ∀ f g, E.foreign f = some g → Callable Tryz.prog f ∧ ∀ x r, g x = some r → Contract Tryz.prog E f x r := fun f g h => by
  have h' : frT f = some g := h
  unfold frT at h'
  split at h'
  · rename_i hf
    subst hf
    cases h'
    exact foreign151
  split at h'
  · rename_i hf
    subst hf
    cases h'
    exact foreign108
  split at h'
  · rename_i hf
    subst hf
    cases h'
    exact DfrOK.c_trace_Mix
  split at h'
  · rename_i hf
    subst hf
    cases h'
    exact foreign96
  split at h'
  · rename_i hf
    subst hf
    cases h'
    exact foreign85
  split at h'
  · rename_i hf
    subst hf
    cases h'
    exact DfrOK.c_plot_Over
  cases h'
theorem envOK [Dfr] [DfrOK] : EnvOK Tryz.prog E := ⟨tab, fns, foreigns⟩
end Go.Proofs.YtdbabacjmkfkgaaGreatDoor.Sv
