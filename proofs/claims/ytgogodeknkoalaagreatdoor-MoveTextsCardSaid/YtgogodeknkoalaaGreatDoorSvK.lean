/- The tables of the seat are those of the program: checked by the kernel. Written by a program (emit3.py). -/
import Derived.Test.YtgogodeknkoalaaGreatDoorSvE
import Derived.Test.YtgogodeknkoalaaGreatDoorSvT
import Derived.Test.YtgogodeknkoalaaGreatDoorSvS
import Derived.Test.YtgogodeknkoalaaGreatDoorEv8
namespace Go.Proofs.YtgogodeknkoalaaGreatDoor.Sv
open Go Go.Sv Go.Proofs
set_option linter.unusedVariables false
set_option maxRecDepth 100000
set_option maxHeartbeats 4000000
class DfrOK [Dfr] : Prop where
  c_move_Text : Callable Tryz.prog 17 ∧ ∀ x r, frn17 x = some r → Contract Tryz.prog E 17 x r
  c_move_ways : Callable Tryz.prog 22 ∧ ∀ x r, frn22 x = some r → Contract Tryz.prog E 22 x r
  c_plot_Over : Callable Tryz.prog 32 ∧ ∀ x r, frn32 x = some r → Contract Tryz.prog E 32 x r
/-- A contract hangs not on what is asked of others. -/
theorem contract_any {d d' : Dfr} {f : Nat} {x : Tup (sg f).args} {r : Tup (sg f).res} (h : Contract Tryz.prog (@E d) f x r) : Contract Tryz.prog (@E d') f x r := fun w F0 G A vs hA => h w F0 G A vs ⟨hA.rel, hA.bx, hA.tgm, hA.tgi, hA.f0, hA.glob⟩
theorem rows [Dfr] : (tiT.list.all fun p => rowIs Tryz.prog p.1 p.2) = true := by kernel_rfl
theorem eqRows [Dfr] : (tiT.list.all fun p => !p.2.eq || Nat.beq p.1 29 || Nat.beq p.1 40) = true := by kernel_rfl
theorem eq29 [Dfr] : (T29).flat = true ∧ ∀ (w : World) (op : BinOp) (x y : Operand) (a b : (T29).den), (eqGuard op 29 x y (.agg (flatVals T29 a).toArray) (.agg (flatVals T29 b).toArray)).run Tryz.prog w = .ok () w ∧ (Op.equalIn 10000 29 (.agg (flatVals T29 a).toArray) (.agg (flatVals T29 b).toArray)).run Tryz.prog w = .ok (eqD T29 a b) w := eq_fit rfl (by kernel_rfl) (by kernel_rfl) (by kernel_rfl) (by kernel_rfl)
theorem eq40 [Dfr] : (T40).flat = true ∧ ∀ (w : World) (op : BinOp) (x y : Operand) (a b : (T40).den), (eqGuard op 40 x y (.agg (flatVals T40 a).toArray) (.agg (flatVals T40 b).toArray)).run Tryz.prog w = .ok () w ∧ (Op.equalIn 10000 40 (.agg (flatVals T40 a).toArray) (.agg (flatVals T40 b).toArray)).run Tryz.prog w = .ok (eqD T40 a b) w := eq_fit rfl (by kernel_rfl) (by kernel_rfl) (by kernel_rfl) (by kernel_rfl)
theorem types [Dfr] : TypesOK Tryz.prog E := ⟨fun t i h => by
  have hm : (t, i) ∈ tiT.list := Tree.find_mem h
  refine rowIs_ok (List.all_eq_true.1 rows _ hm) fun he u hu => ?_
  have h1 := List.all_eq_true.1 eqRows _ hm
  simp only [he, Bool.not_true, Bool.false_or, Bool.or_eq_true] at h1
  rcases h1 with h1 | h1
  · have h2 : t = 29 := Nat.eq_of_beq_eq_true h1
    subst h2
    cases h.symm.trans (show E.ti 29 = some _ from rfl)
    cases hu
    exact eq29
  · have h2 : t = 40 := Nat.eq_of_beq_eq_true h1
    subst h2
    cases h.symm.trans (show E.ti 40 = some _ from rfl)
    cases hu
    exact eq40⟩
theorem rowsOK [Dfr] : RowsOK Tryz.prog E := fun f b e u h => by
  have h' : rowsT f = some (b, e, u) := h
  unfold rowsT at h'
  cases h'
theorem revRun55 [Dfr] : RevRun Tryz.prog 55 3 (.int .i64) := revRuns_int (ρ := Tryz.rev55_ren) Tryz.rev55 ⟨Tryz.f55, Tryz.func55, by kernel_rfl, by kernel_rfl⟩
theorem revsOK [Dfr] : RevsOK Tryz.prog E := fun f e u h => by
  have h' : revsT f = some (e, u) := h
  unfold revsT at h'
  split at h'
  · rename_i hf
    subst hf
    cases h'
    exact revRun55
  cases h'
theorem tab [Dfr] : TabOK Tryz.prog E := ⟨by kernel_rfl, types, elemIs_ok fun t i h => List.all_eq_true.1 rows _ (Tree.find_mem h), rowsOK, pins_none fun _ _ _ _ _ _ => rfl, revsOK⟩
theorem dsts [Dfr] : (fnT.list.all fun p => !(p.2.name == "runtime.NumGoroutine") && (match p.2.body with | some c => dstsOK p.2.ntmps c | none => true)) = true := by kernel_rfl
theorem funcs [Dfr] : ∀ p ∈ fnT.list, Tryz.prog.funcs[p.1]? = some p.2 := by
  show ∀ p ∈ [(65, Tryz.f65), (34, Tryz.f34), (16, Tryz.f16), (9, Tryz.f9), (6, Tryz.f6), (4, Tryz.f4), (3, Tryz.f3), (5, Tryz.f5), (8, Tryz.f8), (7, Tryz.f7), (13, Tryz.f13), (11, Tryz.f11), (10, Tryz.f10), (12, Tryz.f12), (15, Tryz.f15), (14, Tryz.f14), (25, Tryz.f25), (21, Tryz.f21), (19, Tryz.f19), (18, Tryz.f18), (20, Tryz.f20), (24, Tryz.f24), (23, Tryz.f23), (30, Tryz.f30), (28, Tryz.f28), (27, Tryz.f27), (29, Tryz.f29), (33, Tryz.f33), (31, Tryz.f31), (49, Tryz.f49), (41, Tryz.f41), (38, Tryz.f38), (36, Tryz.f36), (35, Tryz.f35), (37, Tryz.f37), (40, Tryz.f40), (39, Tryz.f39), (45, Tryz.f45), (43, Tryz.f43), (42, Tryz.f42), (44, Tryz.f44), (47, Tryz.f47), (46, Tryz.f46), (58, Tryz.f58), (54, Tryz.f54), (51, Tryz.f51), (50, Tryz.f50), (53, Tryz.f53), (57, Tryz.f57), (56, Tryz.f56), (61, Tryz.f61), (60, Tryz.f60), (59, Tryz.f59), (63, Tryz.f63), (62, Tryz.f62), (104, Tryz.f104), (85, Tryz.f85), (74, Tryz.f74), (70, Tryz.f70), (67, Tryz.f67), (66, Tryz.f66), (69, Tryz.f69), (73, Tryz.f73), (71, Tryz.f71), (82, Tryz.f82), (76, Tryz.f76), (75, Tryz.f75), (81, Tryz.f81), (84, Tryz.f84), (83, Tryz.f83), (92, Tryz.f92), (89, Tryz.f89), (87, Tryz.f87), (86, Tryz.f86), (88, Tryz.f88), (91, Tryz.f91), (90, Tryz.f90), (96, Tryz.f96), (94, Tryz.f94), (93, Tryz.f93), (95, Tryz.f95), (103, Tryz.f103), (102, Tryz.f102), (120, Tryz.f120), (111, Tryz.f111), (108, Tryz.f108), (106, Tryz.f106), (105, Tryz.f105), (107, Tryz.f107), (110, Tryz.f110), (109, Tryz.f109), (115, Tryz.f115), (113, Tryz.f113), (112, Tryz.f112), (114, Tryz.f114), (119, Tryz.f119), (118, Tryz.f118), (127, Tryz.f127), (124, Tryz.f124), (122, Tryz.f122), (121, Tryz.f121), (123, Tryz.f123), (126, Tryz.f126), (125, Tryz.f125), (131, Tryz.f131), (130, Tryz.f130), (128, Tryz.f128), (138, Tryz.f138), (132, Tryz.f132)], Tryz.prog.funcs[p.1]? = some p.2
  intro p hp
  simp only [List.mem_cons, List.not_mem_nil, or_false] at hp
  rcases hp with rfl | rfl | rfl | rfl | rfl | rfl | rfl | rfl | rfl | rfl | rfl | rfl | rfl | rfl | rfl | rfl | rfl | rfl | rfl | rfl | rfl | rfl | rfl | rfl | rfl | rfl | rfl | rfl | rfl | rfl | rfl | rfl | rfl | rfl | rfl | rfl | rfl | rfl | rfl | rfl | rfl | rfl | rfl | rfl | rfl | rfl | rfl | rfl | rfl | rfl | rfl | rfl | rfl | rfl | rfl | rfl | rfl | rfl | rfl | rfl | rfl | rfl | rfl | rfl | rfl | rfl | rfl | rfl | rfl | rfl | rfl | rfl | rfl | rfl | rfl | rfl | rfl | rfl | rfl | rfl | rfl | rfl | rfl | rfl | rfl | rfl | rfl | rfl | rfl | rfl | rfl | rfl | rfl | rfl | rfl | rfl | rfl | rfl | rfl | rfl | rfl | rfl | rfl | rfl | rfl | rfl | rfl | rfl | rfl
  · exact Tryz.func65
  · exact Tryz.func34
  · exact Tryz.func16
  · exact Tryz.func9
  · exact Tryz.func6
  · exact Tryz.func4
  · exact Tryz.func3
  · exact Tryz.func5
  · exact Tryz.func8
  · exact Tryz.func7
  · exact Tryz.func13
  · exact Tryz.func11
  · exact Tryz.func10
  · exact Tryz.func12
  · exact Tryz.func15
  · exact Tryz.func14
  · exact Tryz.func25
  · exact Tryz.func21
  · exact Tryz.func19
  · exact Tryz.func18
  · exact Tryz.func20
  · exact Tryz.func24
  · exact Tryz.func23
  · exact Tryz.func30
  · exact Tryz.func28
  · exact Tryz.func27
  · exact Tryz.func29
  · exact Tryz.func33
  · exact Tryz.func31
  · exact Tryz.func49
  · exact Tryz.func41
  · exact Tryz.func38
  · exact Tryz.func36
  · exact Tryz.func35
  · exact Tryz.func37
  · exact Tryz.func40
  · exact Tryz.func39
  · exact Tryz.func45
  · exact Tryz.func43
  · exact Tryz.func42
  · exact Tryz.func44
  · exact Tryz.func47
  · exact Tryz.func46
  · exact Tryz.func58
  · exact Tryz.func54
  · exact Tryz.func51
  · exact Tryz.func50
  · exact Tryz.func53
  · exact Tryz.func57
  · exact Tryz.func56
  · exact Tryz.func61
  · exact Tryz.func60
  · exact Tryz.func59
  · exact Tryz.func63
  · exact Tryz.func62
  · exact Tryz.func104
  · exact Tryz.func85
  · exact Tryz.func74
  · exact Tryz.func70
  · exact Tryz.func67
  · exact Tryz.func66
  · exact Tryz.func69
  · exact Tryz.func73
  · exact Tryz.func71
  · exact Tryz.func82
  · exact Tryz.func76
  · exact Tryz.func75
  · exact Tryz.func81
  · exact Tryz.func84
  · exact Tryz.func83
  · exact Tryz.func92
  · exact Tryz.func89
  · exact Tryz.func87
  · exact Tryz.func86
  · exact Tryz.func88
  · exact Tryz.func91
  · exact Tryz.func90
  · exact Tryz.func96
  · exact Tryz.func94
  · exact Tryz.func93
  · exact Tryz.func95
  · exact Tryz.func103
  · exact Tryz.func102
  · exact Tryz.func120
  · exact Tryz.func111
  · exact Tryz.func108
  · exact Tryz.func106
  · exact Tryz.func105
  · exact Tryz.func107
  · exact Tryz.func110
  · exact Tryz.func109
  · exact Tryz.func115
  · exact Tryz.func113
  · exact Tryz.func112
  · exact Tryz.func114
  · exact Tryz.func119
  · exact Tryz.func118
  · exact Tryz.func127
  · exact Tryz.func124
  · exact Tryz.func122
  · exact Tryz.func121
  · exact Tryz.func123
  · exact Tryz.func126
  · exact Tryz.func125
  · exact Tryz.func131
  · exact Tryz.func130
  · exact Tryz.func128
  · exact Tryz.func138
  · exact Tryz.func132
theorem fns [Dfr] : ∀ f fn, E.fn f = some fn → Tryz.prog.funcs[f]? = some fn ∧ (fn.name == "runtime.NumGoroutine") = false ∧ ∀ c, fn.body = some c → dstsOK fn.ntmps c = true := fun f fn h => by
  have hm : (f, fn) ∈ fnT.list := Tree.find_mem h
  have h1 := List.all_eq_true.1 dsts _ hm
  simp only [Bool.and_eq_true, Bool.not_eq_true'] at h1
  exact ⟨funcs _ hm, h1.1, fun c hc => by have h2 := h1.2; rw [hc] at h2; exact h2⟩
theorem foreign72 [Dfr] : Callable Tryz.prog 72 ∧ ∀ x r, frn72 x = some r → Contract Tryz.prog E 72 x r := by
  refine ⟨⟨Tryz.f72, Tryz.func72, by kernel_rfl, by kernel_rfl⟩, fun x r h => ?_⟩
  have h' : (bif roomOk (List.length x) 32 then some x else none) = some r := h
  cases hr : roomOk (List.length x) 32 with
  | false => rw [hr] at h'; cases h'
  | true =>
    rw [hr] at h'
    cases h'
    exact clone_contract tab Tryz.func72 rfl rfl rfl rfl (show E.sig 72 = _ from rfl) (show E.ti 22 = some _ from rfl) rfl rfl (show E.ti 40 = some _ from rfl) (by decide) rfl rfl HEq.rfl HEq.rfl hr rfl
theorem foreign129 [Dfr] : Callable Tryz.prog 129 ∧ ∀ x r, frn129 x = some r → Contract Tryz.prog E 129 x r :=
  ⟨⟨Tryz.f129, Tryz.func129, by kernel_rfl, by kernel_rfl⟩, fun x r h => trim_contract (E := E) (f := 129) rfl (fun s c w h1 h2 h3 => trim_drawn Tryz.lays160 (by kernel_rfl) s c w h1 h2 (ascii_of_all h3)) x r x r HEq.rfl HEq.rfl h⟩
theorem foreigns [Dfr] [DfrOK] : ∀ f g, E.foreign f = some g → Callable Tryz.prog f ∧ ∀ x r, g x = some r → Contract Tryz.prog E f x r := fun f g h => by
  have h' : frT f = some g := h
  unfold frT at h'
  split at h'
  · rename_i hf
    subst hf
    cases h'
    exact foreign129
  split at h'
  · rename_i hf
    subst hf
    cases h'
    exact foreign72
  split at h'
  · rename_i hf
    subst hf
    cases h'
    exact DfrOK.c_plot_Over
  split at h'
  · rename_i hf
    subst hf
    cases h'
    exact DfrOK.c_move_ways
  split at h'
  · rename_i hf
    subst hf
    cases h'
    exact DfrOK.c_move_Text
  cases h'
theorem envOK [Dfr] [DfrOK] : EnvOK Tryz.prog E := ⟨tab, fns, foreigns⟩
end Go.Proofs.YtgogodeknkoalaaGreatDoor.Sv
