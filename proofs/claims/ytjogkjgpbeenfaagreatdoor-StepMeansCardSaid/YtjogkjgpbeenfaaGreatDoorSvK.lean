/- The tables of the seat are those of the program: checked by the kernel. Written by a program (emit3.py). -/
import Derived.Test.YtjogkjgpbeenfaaGreatDoorSvE
import Derived.Test.YtjogkjgpbeenfaaGreatDoorSvT
import Derived.Test.YtjogkjgpbeenfaaGreatDoorSvS
import Derived.Test.YtjogkjgpbeenfaaGreatDoorEv8
namespace Go.Proofs.YtjogkjgpbeenfaaGreatDoor.Sv
open Go Go.Sv Go.Proofs
set_option linter.unusedVariables false
set_option maxRecDepth 100000
set_option maxHeartbeats 4000000
class zqy [Dfr] : Prop where
  c_step_Put : zbi Tryz.prog 23 ∧ ∀ x r, yyc x = some r → zff Tryz.prog E 23 x r
  c_move_ways : zbi Tryz.prog 37 ∧ ∀ x r, yyb x = some r → zff Tryz.prog E 37 x r
  c_plot_Over : zbi Tryz.prog 65 ∧ ∀ x r, yya x = some r → zff Tryz.prog E 65 x r
  c_trace_Mix : zbi Tryz.prog 115 ∧ ∀ x r, ytp x = some r → zff Tryz.prog E 115 x r
theorem qbu {d d' : Dfr} {f : Nat} {x : Tup (sg f).args} {r : Tup (sg f).res} (h : zff Tryz.prog (@E d) f x r) : zff Tryz.prog (@E d') f x r := fun w F0 G A vs hA => h w F0 G A vs ⟨hA.rel, hA.bx, hA.tgm, hA.tgi, hA.f0, hA.glob⟩
theorem rows [Dfr] : (tiT.list.all fun p => rowIs Tryz.prog p.1 p.2) = true := by kernel_rfl
theorem yyf [Dfr] : (tiT.list.all fun p => !p.2.eq || Nat.beq p.1 24 || Nat.beq p.1 36) = true := by kernel_rfl
theorem eq24 [Dfr] : (T24).flat = true ∧ ∀ (w : World) (op : BinOp) (x y : Operand) (a b : (T24).den), (eqGuard op 24 x y (.agg (zbd T24 a).toArray) (.agg (zbd T24 b).toArray)).run Tryz.prog w = .ok () w ∧ (Op.equalIn 10000 24 (.agg (zbd T24 a).toArray) (.agg (zbd T24 b).toArray)).run Tryz.prog w = .ok (eqD T24 a b) w := ytr rfl (by kernel_rfl) (by kernel_rfl) (by kernel_rfl) (by kernel_rfl)
theorem eq36 [Dfr] : (T36).flat = true ∧ ∀ (w : World) (op : BinOp) (x y : Operand) (a b : (T36).den), (eqGuard op 36 x y (.agg (zbd T36 a).toArray) (.agg (zbd T36 b).toArray)).run Tryz.prog w = .ok () w ∧ (Op.equalIn 10000 36 (.agg (zbd T36 a).toArray) (.agg (zbd T36 b).toArray)).run Tryz.prog w = .ok (eqD T36 a b) w := ytr rfl (by kernel_rfl) (by kernel_rfl) (by kernel_rfl) (by kernel_rfl)
theorem types [Dfr] : zgd Tryz.prog E := ⟨fun t i h => by
  have hm : (t, i) ∈ tiT.list := Tree.qhp h
  refine yqm (List.all_eq_true.1 rows _ hm) fun he u hu => ?_
  have h1 := List.all_eq_true.1 yyf _ hm
  simp only [he, Bool.not_true, Bool.false_or, Bool.or_eq_true] at h1
  rcases h1 with h1 | h1
  · have h2 : t = 24 := Nat.eq_of_beq_eq_true h1
    subst h2
    cases h.symm.trans (show E.ti 24 = some _ from rfl)
    cases hu
    exact eq24
  · have h2 : t = 36 := Nat.eq_of_beq_eq_true h1
    subst h2
    cases h.symm.trans (show E.ti 36 = some _ from rfl)
    cases hu
    exact eq36⟩
theorem yhr [Dfr] : ztg Tryz.prog E 127 false 66 T66 := qjv (ρ := Tryz.qnp) Tryz.yul rfl Tryz.isAgg66 Tryz.sizeOf66 ⟨Tryz.f127, Tryz.func127, by kernel_rfl, by kernel_rfl⟩
theorem yhq [Dfr] : ztg Tryz.prog E 129 true 66 T66 := qbw (T := 40) (e := 66) (B := 4) (I := 3) (FT := 139) (U := 0) ⟨by kernel_rfl, Tryz.underlying0, Tryz.underlying3, Tryz.underlying4, Tryz.underlying40, ⟨_, _, Tryz.underlying139⟩, Tryz.isAgg0, Tryz.isAgg3, Tryz.isAgg4, Tryz.isAgg40, Tryz.isAgg139, Tryz.sizeOf3, Tryz.sizeOf4, Tryz.sizeOf40, Tryz.sizeOf139⟩ ⟨Tryz.f129.name, by decide, Tryz.func129.trans (congrArg some (by kernel_rfl))⟩ rfl Tryz.isAgg66 Tryz.sizeOf66 _ Tryz.zeroValue66 rfl (by decide) ⟨Tryz.f129, Tryz.func129, by kernel_rfl, by kernel_rfl⟩
theorem yhp [Dfr] : ztg Tryz.prog E 155 false 64 ((.slice 9 .str)) := qyx (ρ := Tryz.qno) Tryz.yuk rfl ⟨Tryz.f155, Tryz.func155, by kernel_rfl, by kernel_rfl⟩
theorem yho [Dfr] : ztg Tryz.prog E 157 true 64 ((.slice 9 .str)) := qqp (T := 124) (e := 64) (B := 4) (I := 3) (FT := 157) (U := 0) ⟨by kernel_rfl, Tryz.underlying0, Tryz.underlying3, Tryz.underlying4, Tryz.underlying124, ⟨_, _, Tryz.underlying157⟩, Tryz.isAgg0, Tryz.isAgg3, Tryz.isAgg4, Tryz.isAgg124, Tryz.isAgg157, Tryz.sizeOf3, Tryz.sizeOf4, Tryz.sizeOf124, Tryz.sizeOf157⟩ ⟨Tryz.f157.name, by decide, Tryz.func157.trans (congrArg some (by kernel_rfl))⟩ rfl Tryz.isAgg64 Tryz.sizeOf64 _ Tryz.zeroValue64 rfl (by decide) ⟨Tryz.f157, Tryz.func157, by kernel_rfl, by kernel_rfl⟩
theorem yhn [Dfr] : ztg Tryz.prog E 164 false 94 T94 := qjv (ρ := Tryz.qnn) Tryz.yuj rfl Tryz.isAgg94 Tryz.sizeOf94 ⟨Tryz.f164, Tryz.func164, by kernel_rfl, by kernel_rfl⟩
theorem yhm [Dfr] : ztg Tryz.prog E 165 true 94 T94 := qbw (T := 91) (e := 94) (B := 4) (I := 3) (FT := 164) (U := 0) ⟨by kernel_rfl, Tryz.underlying0, Tryz.underlying3, Tryz.underlying4, Tryz.underlying91, ⟨_, _, Tryz.underlying164⟩, Tryz.isAgg0, Tryz.isAgg3, Tryz.isAgg4, Tryz.isAgg91, Tryz.isAgg164, Tryz.sizeOf3, Tryz.sizeOf4, Tryz.sizeOf91, Tryz.sizeOf164⟩ ⟨Tryz.f165.name, by decide, Tryz.func165.trans (congrArg some (by kernel_rfl))⟩ rfl Tryz.isAgg94 Tryz.sizeOf94 _ Tryz.zeroValue94 rfl (by decide) ⟨Tryz.f165, Tryz.func165, by kernel_rfl, by kernel_rfl⟩
theorem yxi [Dfr] : ybx Tryz.prog E := fun f b e u h => by
  have h' : yut f = some (b, e, u) := h
  unfold yut at h'
  split at h'
  · rename_i hf
    subst hf
    cases h'
    exact yhr
  split at h'
  · rename_i hf
    subst hf
    cases h'
    exact yhq
  split at h'
  · rename_i hf
    subst hf
    cases h'
    exact yhp
  split at h'
  · rename_i hf
    subst hf
    cases h'
    exact yho
  split at h'
  · rename_i hf
    subst hf
    cases h'
    exact yhn
  split at h'
  · rename_i hf
    subst hf
    cases h'
    exact yhm
  cases h'
theorem ylj [Dfr] : ygx Tryz.prog 147 3 (.int .i64) := yda (ρ := Tryz.qtj) Tryz.yxk ⟨Tryz.f147, Tryz.func147, by kernel_rfl, by kernel_rfl⟩
theorem yxj [Dfr] : ygw Tryz.prog E := fun f e u h => by
  have h' : yvb f = some (e, u) := h
  unfold yvb at h'
  split at h'
  · rename_i hf
    subst hf
    cases h'
    exact ylj
  cases h'
theorem tab [Dfr] : qde Tryz.prog E := ⟨by kernel_rfl, types, ynm fun t i h => List.all_eq_true.1 rows _ (Tree.qhp h), yxi, ylw fun _ _ _ _ _ _ => rfl, yxj⟩
theorem dsts [Dfr] : (fnT.list.all fun p => !(p.2.name == "runtime.NumGoroutine") && (match p.2.body with | some c => zla p.2.ntmps c | none => true)) = true := by kernel_rfl
theorem funcs [Dfr] : ∀ p ∈ fnT.list, Tryz.prog.funcs[p.1]? = some p.2 := by
  show ∀ p ∈ [(85, Tryz.f85), (44, Tryz.f44), (22, Tryz.f22), (12, Tryz.f12), (7, Tryz.f7), (5, Tryz.f5), (4, Tryz.f4), (3, Tryz.f3), (6, Tryz.f6), (10, Tryz.f10), (9, Tryz.f9), (8, Tryz.f8), (11, Tryz.f11), (17, Tryz.f17), (15, Tryz.f15), (14, Tryz.f14), (13, Tryz.f13), (16, Tryz.f16), (20, Tryz.f20), (19, Tryz.f19), (18, Tryz.f18), (21, Tryz.f21), (33, Tryz.f33), (28, Tryz.f28), (26, Tryz.f26), (25, Tryz.f25), (24, Tryz.f24), (27, Tryz.f27), (31, Tryz.f31), (30, Tryz.f30), (29, Tryz.f29), (32, Tryz.f32), (39, Tryz.f39), (36, Tryz.f36), (35, Tryz.f35), (34, Tryz.f34), (38, Tryz.f38), (42, Tryz.f42), (41, Tryz.f41), (40, Tryz.f40), (43, Tryz.f43), (64, Tryz.f64), (54, Tryz.f54), (49, Tryz.f49), (47, Tryz.f47), (46, Tryz.f46), (45, Tryz.f45), (48, Tryz.f48), (52, Tryz.f52), (51, Tryz.f51), (50, Tryz.f50), (53, Tryz.f53), (59, Tryz.f59), (57, Tryz.f57), (56, Tryz.f56), (55, Tryz.f55), (58, Tryz.f58), (62, Tryz.f62), (61, Tryz.f61), (60, Tryz.f60), (63, Tryz.f63), (75, Tryz.f75), (70, Tryz.f70), (68, Tryz.f68), (67, Tryz.f67), (66, Tryz.f66), (69, Tryz.f69), (73, Tryz.f73), (72, Tryz.f72), (71, Tryz.f71), (74, Tryz.f74), (80, Tryz.f80), (78, Tryz.f78), (77, Tryz.f77), (76, Tryz.f76), (79, Tryz.f79), (83, Tryz.f83), (82, Tryz.f82), (81, Tryz.f81), (84, Tryz.f84), (132, Tryz.f132), (106, Tryz.f106), (96, Tryz.f96), (91, Tryz.f91), (88, Tryz.f88), (87, Tryz.f87), (86, Tryz.f86), (89, Tryz.f89), (94, Tryz.f94), (93, Tryz.f93), (92, Tryz.f92), (95, Tryz.f95), (101, Tryz.f101), (99, Tryz.f99), (98, Tryz.f98), (97, Tryz.f97), (100, Tryz.f100), (104, Tryz.f104), (103, Tryz.f103), (102, Tryz.f102), (105, Tryz.f105), (119, Tryz.f119), (113, Tryz.f113), (109, Tryz.f109), (108, Tryz.f108), (107, Tryz.f107), (112, Tryz.f112), (117, Tryz.f117), (116, Tryz.f116), (114, Tryz.f114), (118, Tryz.f118), (124, Tryz.f124), (122, Tryz.f122), (121, Tryz.f121), (120, Tryz.f120), (123, Tryz.f123), (130, Tryz.f130), (128, Tryz.f128), (125, Tryz.f125), (131, Tryz.f131), (156, Tryz.f156), (142, Tryz.f142), (137, Tryz.f137), (135, Tryz.f135), (134, Tryz.f134), (133, Tryz.f133), (136, Tryz.f136), (140, Tryz.f140), (139, Tryz.f139), (138, Tryz.f138), (141, Tryz.f141), (148, Tryz.f148), (145, Tryz.f145), (144, Tryz.f144), (143, Tryz.f143), (146, Tryz.f146), (152, Tryz.f152), (151, Tryz.f151), (149, Tryz.f149), (153, Tryz.f153), (171, Tryz.f171), (162, Tryz.f162), (160, Tryz.f160), (159, Tryz.f159), (158, Tryz.f158), (161, Tryz.f161), (169, Tryz.f169), (166, Tryz.f166), (163, Tryz.f163), (170, Tryz.f170), (189, Tryz.f189), (175, Tryz.f175), (173, Tryz.f173), (172, Tryz.f172), (177, Tryz.f177), (197, Tryz.f197), (191, Tryz.f191), (190, Tryz.f190), (206, Tryz.f206)], Tryz.prog.funcs[p.1]? = some p.2
  intro p hp
  simp only [List.mem_cons, List.not_mem_nil, or_false] at hp
  rcases hp with rfl | rfl | rfl | rfl | rfl | rfl | rfl | rfl | rfl | rfl | rfl | rfl | rfl | rfl | rfl | rfl | rfl | rfl | rfl | rfl | rfl | rfl | rfl | rfl | rfl | rfl | rfl | rfl | rfl | rfl | rfl | rfl | rfl | rfl | rfl | rfl | rfl | rfl | rfl | rfl | rfl | rfl | rfl | rfl | rfl | rfl | rfl | rfl | rfl | rfl | rfl | rfl | rfl | rfl | rfl | rfl | rfl | rfl | rfl | rfl | rfl | rfl | rfl | rfl | rfl | rfl | rfl | rfl | rfl | rfl | rfl | rfl | rfl | rfl | rfl | rfl | rfl | rfl | rfl | rfl | rfl | rfl | rfl | rfl | rfl | rfl | rfl | rfl | rfl | rfl | rfl | rfl | rfl | rfl | rfl | rfl | rfl | rfl | rfl | rfl | rfl | rfl | rfl | rfl | rfl | rfl | rfl | rfl | rfl | rfl | rfl | rfl | rfl | rfl | rfl | rfl | rfl | rfl | rfl | rfl | rfl | rfl | rfl | rfl | rfl | rfl | rfl | rfl | rfl | rfl | rfl | rfl | rfl | rfl | rfl | rfl | rfl | rfl | rfl | rfl | rfl | rfl | rfl | rfl | rfl | rfl | rfl | rfl | rfl | rfl | rfl | rfl | rfl | rfl | rfl | rfl | rfl | rfl | rfl
  · exact Tryz.func85
  · exact Tryz.func44
  · exact Tryz.func22
  · exact Tryz.func12
  · exact Tryz.func7
  · exact Tryz.func5
  · exact Tryz.func4
  · exact Tryz.func3
  · exact Tryz.func6
  · exact Tryz.func10
  · exact Tryz.func9
  · exact Tryz.func8
  · exact Tryz.func11
  · exact Tryz.func17
  · exact Tryz.func15
  · exact Tryz.func14
  · exact Tryz.func13
  · exact Tryz.func16
  · exact Tryz.func20
  · exact Tryz.func19
  · exact Tryz.func18
  · exact Tryz.func21
  · exact Tryz.func33
  · exact Tryz.func28
  · exact Tryz.func26
  · exact Tryz.func25
  · exact Tryz.func24
  · exact Tryz.func27
  · exact Tryz.func31
  · exact Tryz.func30
  · exact Tryz.func29
  · exact Tryz.func32
  · exact Tryz.func39
  · exact Tryz.func36
  · exact Tryz.func35
  · exact Tryz.func34
  · exact Tryz.func38
  · exact Tryz.func42
  · exact Tryz.func41
  · exact Tryz.func40
  · exact Tryz.func43
  · exact Tryz.func64
  · exact Tryz.func54
  · exact Tryz.func49
  · exact Tryz.func47
  · exact Tryz.func46
  · exact Tryz.func45
  · exact Tryz.func48
  · exact Tryz.func52
  · exact Tryz.func51
  · exact Tryz.func50
  · exact Tryz.func53
  · exact Tryz.func59
  · exact Tryz.func57
  · exact Tryz.func56
  · exact Tryz.func55
  · exact Tryz.func58
  · exact Tryz.func62
  · exact Tryz.func61
  · exact Tryz.func60
  · exact Tryz.func63
  · exact Tryz.func75
  · exact Tryz.func70
  · exact Tryz.func68
  · exact Tryz.func67
  · exact Tryz.func66
  · exact Tryz.func69
  · exact Tryz.func73
  · exact Tryz.func72
  · exact Tryz.func71
  · exact Tryz.func74
  · exact Tryz.func80
  · exact Tryz.func78
  · exact Tryz.func77
  · exact Tryz.func76
  · exact Tryz.func79
  · exact Tryz.func83
  · exact Tryz.func82
  · exact Tryz.func81
  · exact Tryz.func84
  · exact Tryz.func132
  · exact Tryz.func106
  · exact Tryz.func96
  · exact Tryz.func91
  · exact Tryz.func88
  · exact Tryz.func87
  · exact Tryz.func86
  · exact Tryz.func89
  · exact Tryz.func94
  · exact Tryz.func93
  · exact Tryz.func92
  · exact Tryz.func95
  · exact Tryz.func101
  · exact Tryz.func99
  · exact Tryz.func98
  · exact Tryz.func97
  · exact Tryz.func100
  · exact Tryz.func104
  · exact Tryz.func103
  · exact Tryz.func102
  · exact Tryz.func105
  · exact Tryz.func119
  · exact Tryz.func113
  · exact Tryz.func109
  · exact Tryz.func108
  · exact Tryz.func107
  · exact Tryz.func112
  · exact Tryz.func117
  · exact Tryz.func116
  · exact Tryz.func114
  · exact Tryz.func118
  · exact Tryz.func124
  · exact Tryz.func122
  · exact Tryz.func121
  · exact Tryz.func120
  · exact Tryz.func123
  · exact Tryz.func130
  · exact Tryz.func128
  · exact Tryz.func125
  · exact Tryz.func131
  · exact Tryz.func156
  · exact Tryz.func142
  · exact Tryz.func137
  · exact Tryz.func135
  · exact Tryz.func134
  · exact Tryz.func133
  · exact Tryz.func136
  · exact Tryz.func140
  · exact Tryz.func139
  · exact Tryz.func138
  · exact Tryz.func141
  · exact Tryz.func148
  · exact Tryz.func145
  · exact Tryz.func144
  · exact Tryz.func143
  · exact Tryz.func146
  · exact Tryz.func152
  · exact Tryz.func151
  · exact Tryz.func149
  · exact Tryz.func153
  · exact Tryz.func171
  · exact Tryz.func162
  · exact Tryz.func160
  · exact Tryz.func159
  · exact Tryz.func158
  · exact Tryz.func161
  · exact Tryz.func169
  · exact Tryz.func166
  · exact Tryz.func163
  · exact Tryz.func170
  · exact Tryz.func189
  · exact Tryz.func175
  · exact Tryz.func173
  · exact Tryz.func172
  · exact Tryz.func177
  · exact Tryz.func197
  · exact Tryz.func191
  · exact Tryz.func190
  · exact Tryz.func206
theorem fns [Dfr] : ∀ f fn, E.fn f = some fn → Tryz.prog.funcs[f]? = some fn ∧ (fn.name == "runtime.NumGoroutine") = false ∧ ∀ c, fn.body = some c → zla fn.ntmps c = true := fun f fn h => by
  have hm : (f, fn) ∈ fnT.list := Tree.qhp h
  have h1 := List.all_eq_true.1 dsts _ hm
  simp only [Bool.and_eq_true, Bool.not_eq_true'] at h1
  exact ⟨funcs _ hm, h1.1, fun c hc => by have h2 := h1.2; rw [hc] at h2; exact h2⟩
theorem yng [Dfr] : zbi Tryz.prog 90 ∧ ∀ x r, yxz x = some r → zff Tryz.prog E 90 x r := by
  refine ⟨⟨Tryz.f90, Tryz.func90, by kernel_rfl, by kernel_rfl⟩, fun x r h => ?_⟩
  have h' : (bif zav (List.length x) 32 then some x else none) = some r := h
  cases hr : zav (List.length x) 32 with
  | false => rw [hr] at h'; cases h'
  | true =>
    rw [hr] at h'
    cases h'
    exact zvt tab Tryz.func90 rfl rfl rfl rfl (show E.sig 90 = _ from rfl) (show E.ti 22 = some _ from rfl) rfl rfl (show E.ti 36 = some _ from rfl) (by decide) rfl rfl HEq.rfl HEq.rfl hr rfl
theorem yip [Dfr] : zbi Tryz.prog 111 ∧ ∀ x r, ytq x = some r → zff Tryz.prog E 111 x r := by
  refine ⟨⟨Tryz.f111, Tryz.func111, by kernel_rfl, by kernel_rfl⟩, fun x r h => ?_⟩
  have h' : (bif zav (List.length x) 16 then some x else none) = some r := h
  cases hr : zav (List.length x) 16 with
  | false => rw [hr] at h'; cases h'
  | true =>
    rw [hr] at h'
    cases h'
    exact zvt tab Tryz.func111 rfl rfl rfl rfl (show E.sig 111 = _ from rfl) (show E.ti 64 = some _ from rfl) rfl rfl (show E.ti 9 = some _ from rfl) (by decide) rfl rfl HEq.rfl HEq.rfl hr rfl
theorem yio [Dfr] : zbi Tryz.prog 126 ∧ ∀ x r, yto x = some r → zff Tryz.prog E 126 x r := by
  refine ⟨⟨Tryz.f126, Tryz.func126, by kernel_rfl, by kernel_rfl⟩, fun x r h => ?_⟩
  have h' : (bif zav (List.length x) 32 then some x else none) = some r := h
  cases hr : zav (List.length x) 32 with
  | false => rw [hr] at h'; cases h'
  | true =>
    rw [hr] at h'
    cases h'
    exact zvt tab Tryz.func126 rfl rfl rfl rfl (show E.sig 126 = _ from rfl) (show E.ti 40 = some _ from rfl) rfl rfl (show E.ti 66 = some _ from rfl) (by decide) rfl rfl HEq.rfl HEq.rfl hr rfl
theorem yin [Dfr] : zbi Tryz.prog 174 ∧ ∀ x r, ytn x = some r → zff Tryz.prog E 174 x r :=
  ⟨⟨Tryz.f174, Tryz.func174, by kernel_rfl, by kernel_rfl⟩, fun x r h => quw (E := E) (f := 174) rfl (fun s c w h1 h2 h3 => yhb Tryz.yvt (by kernel_rfl) s c w h1 h2 (ascii_of_all h3)) x r x r HEq.rfl HEq.rfl h⟩
theorem yru [Dfr] [zqy] : ∀ f g, E.foreign f = some g → zbi Tryz.prog f ∧ ∀ x r, g x = some r → zff Tryz.prog E f x r := fun f g h => by
  have h' : frT f = some g := h
  unfold frT at h'
  split at h'
  · rename_i hf
    subst hf
    cases h'
    exact yin
  split at h'
  · rename_i hf
    subst hf
    cases h'
    exact yio
  split at h'
  · rename_i hf
    subst hf
    cases h'
    exact zqy.c_trace_Mix
  split at h'
  · rename_i hf
    subst hf
    cases h'
    exact yip
  split at h'
  · rename_i hf
    subst hf
    cases h'
    exact yng
  split at h'
  · rename_i hf
    subst hf
    cases h'
    exact zqy.c_plot_Over
  split at h'
  · rename_i hf
    subst hf
    cases h'
    exact zqy.c_move_ways
  split at h'
  · rename_i hf
    subst hf
    cases h'
    exact zqy.c_step_Put
  cases h'
theorem yiq [Dfr] [zqy] : ywh Tryz.prog E := ⟨tab, fns, yru⟩
end Go.Proofs.YtjogkjgpbeenfaaGreatDoor.Sv
