/- The tables of the seat are those of the program: checked by the kernel. Written by a program (emit3.py). -/

import Derived.Test.YthhefjmdfdckjaaGreatDoorSvE
import Derived.Test.YthhefjmdfdckjaaGreatDoorSvT
import Derived.Test.YthhefjmdfdckjaaGreatDoorSvS
import Derived.Test.YthhefjmdfdckjaaGreatDoorEv8
namespace Go.Proofs.YthhefjmdfdckjaaGreatDoor.Sv
open Go Go.Sv Go.Proofs
set_option linter.unusedVariables false
set_option maxRecDepth 100000
set_option maxHeartbeats 4000000
class DfrOK [Dfr] : Prop where
  c_trace_Mix : Callable Tryz.prog 64 ∧ ∀ x r, frn64 x = some r → Contract Tryz.prog E 64 x r
/-- A contract hangs not on what is asked of others. -/
theorem contract_any {d d' : Dfr} {f : Nat} {x : Tup (sg f).args} {r : Tup (sg f).res} (h : Contract Tryz.prog (@E d) f x r) : Contract Tryz.prog (@E d') f x r := fun w F0 G A vs hA => h w F0 G A vs ⟨hA.rel, hA.bx, hA.tgm, hA.tgi, hA.f0, hA.glob⟩
theorem rows [Dfr] : (tiT.list.all fun p => rowIs Tryz.prog p.1 p.2) = true := by kernel_rfl
theorem eqRows [Dfr] : (tiT.list.all fun p => !p.2.eq || Nat.beq p.1 39) = true := by kernel_rfl
theorem eq39 [Dfr] : (T39).flat = true ∧ ∀ (w : World) (op : BinOp) (x y : Operand) (a b : (T39).den), (eqGuard op 39 x y (.agg (flatVals T39 a).toArray) (.agg (flatVals T39 b).toArray)).run Tryz.prog w = .ok () w ∧ (Op.equalIn 10000 39 (.agg (flatVals T39 a).toArray) (.agg (flatVals T39 b).toArray)).run Tryz.prog w = .ok (eqD T39 a b) w := eq_fit rfl (by kernel_rfl) (by kernel_rfl) (by kernel_rfl) (by kernel_rfl)
theorem types [Dfr] : TypesOK Tryz.prog E := ⟨fun t i h => by
  have hm : (t, i) ∈ tiT.list := Tree.find_mem h
  refine rowIs_ok (List.all_eq_true.1 rows _ hm) fun he u hu => ?_
  have h1 := List.all_eq_true.1 eqRows _ hm
  simp only [he, Bool.not_true, Bool.false_or] at h1
  have h2 : t = 39 := Nat.eq_of_beq_eq_true h1
  subst h2
  cases h.symm.trans (show E.ti 39 = some _ from rfl)
  cases hu
  exact eq39⟩
theorem rowsRun76 [Dfr] : RowsRun Tryz.prog E 76 false 49 T49 := sortRuns_agg (ρ := Tryz.sort76_ren) Tryz.sort76 rfl Tryz.isAgg49 Tryz.sizeOf49 ⟨Tryz.f76, Tryz.func76, by kernel_rfl, by kernel_rfl⟩
theorem rowsRun78 [Dfr] : RowsRun Tryz.prog E 78 true 49 T49 := compactRuns_agg (T := 26) (e := 49) (B := 4) (I := 3) (FT := 98) (U := 0) ⟨by kernel_rfl, Tryz.underlying0, Tryz.underlying3, Tryz.underlying4, Tryz.underlying26, ⟨_, _, Tryz.underlying98⟩, Tryz.isAgg0, Tryz.isAgg3, Tryz.isAgg4, Tryz.isAgg26, Tryz.isAgg98, Tryz.sizeOf3, Tryz.sizeOf4, Tryz.sizeOf26, Tryz.sizeOf98⟩ ⟨Tryz.f78.name, by decide, Tryz.func78.trans (congrArg some (by kernel_rfl))⟩ rfl Tryz.isAgg49 Tryz.sizeOf49 _ Tryz.zeroValue49 rfl (by decide) ⟨Tryz.f78, Tryz.func78, by kernel_rfl, by kernel_rfl⟩
theorem rowsRun85 [Dfr] : RowsRun Tryz.prog E 85 false 37 ((.slice 9 .str)) := sortRuns_one (ρ := Tryz.sort85_ren) Tryz.sort85 rfl ⟨Tryz.f85, Tryz.func85, by kernel_rfl, by kernel_rfl⟩
theorem rowsRun87 [Dfr] : RowsRun Tryz.prog E 87 true 37 ((.slice 9 .str)) := compactRuns_one (T := 83) (e := 37) (B := 4) (I := 3) (FT := 106) (U := 0) ⟨by kernel_rfl, Tryz.underlying0, Tryz.underlying3, Tryz.underlying4, Tryz.underlying83, ⟨_, _, Tryz.underlying106⟩, Tryz.isAgg0, Tryz.isAgg3, Tryz.isAgg4, Tryz.isAgg83, Tryz.isAgg106, Tryz.sizeOf3, Tryz.sizeOf4, Tryz.sizeOf83, Tryz.sizeOf106⟩ ⟨Tryz.f87.name, by decide, Tryz.func87.trans (congrArg some (by kernel_rfl))⟩ rfl Tryz.isAgg37 Tryz.sizeOf37 _ Tryz.zeroValue37 rfl (by decide) ⟨Tryz.f87, Tryz.func87, by kernel_rfl, by kernel_rfl⟩
theorem rowsRun94 [Dfr] : RowsRun Tryz.prog E 94 false 70 T70 := sortRuns_agg (ρ := Tryz.sort94_ren) Tryz.sort94 rfl Tryz.isAgg70 Tryz.sizeOf70 ⟨Tryz.f94, Tryz.func94, by kernel_rfl, by kernel_rfl⟩
theorem rowsRun95 [Dfr] : RowsRun Tryz.prog E 95 true 70 T70 := compactRuns_agg (T := 67) (e := 70) (B := 4) (I := 3) (FT := 113) (U := 0) ⟨by kernel_rfl, Tryz.underlying0, Tryz.underlying3, Tryz.underlying4, Tryz.underlying67, ⟨_, _, Tryz.underlying113⟩, Tryz.isAgg0, Tryz.isAgg3, Tryz.isAgg4, Tryz.isAgg67, Tryz.isAgg113, Tryz.sizeOf3, Tryz.sizeOf4, Tryz.sizeOf67, Tryz.sizeOf113⟩ ⟨Tryz.f95.name, by decide, Tryz.func95.trans (congrArg some (by kernel_rfl))⟩ rfl Tryz.isAgg70 Tryz.sizeOf70 _ Tryz.zeroValue70 rfl (by decide) ⟨Tryz.f95, Tryz.func95, by kernel_rfl, by kernel_rfl⟩
theorem rowsOK [Dfr] : RowsOK Tryz.prog E := fun f b e u h => by
  have h' : rowsT f = some (b, e, u) := h
  unfold rowsT at h'
  split at h'
  · rename_i hf
    subst hf
    cases h'
    exact rowsRun76
  split at h'
  · rename_i hf
    subst hf
    cases h'
    exact rowsRun78
  split at h'
  · rename_i hf
    subst hf
    cases h'
    exact rowsRun85
  split at h'
  · rename_i hf
    subst hf
    cases h'
    exact rowsRun87
  split at h'
  · rename_i hf
    subst hf
    cases h'
    exact rowsRun94
  split at h'
  · rename_i hf
    subst hf
    cases h'
    exact rowsRun95
  cases h'
theorem revsOK [Dfr] : RevsOK Tryz.prog E := fun f e u h => by
  have h' : revsT f = some (e, u) := h
  unfold revsT at h'
  cases h'
theorem tab [Dfr] : TabOK Tryz.prog E := ⟨by kernel_rfl, types, elemIs_ok fun t i h => List.all_eq_true.1 rows _ (Tree.find_mem h), rowsOK, pins_none fun _ _ _ _ _ _ => rfl, revsOK⟩
theorem dsts [Dfr] : (fnT.list.all fun p => !(p.2.name == "runtime.NumGoroutine") && (match p.2.body with | some c => dstsOK p.2.ntmps c | none => true)) = true := by kernel_rfl
theorem funcs [Dfr] : ∀ p ∈ fnT.list, Tryz.prog.funcs[p.1]? = some p.2 := by
  show ∀ p ∈ [(48, Tryz.f48), (25, Tryz.f25), (14, Tryz.f14), (8, Tryz.f8), (5, Tryz.f5), (4, Tryz.f4), (3, Tryz.f3), (7, Tryz.f7), (6, Tryz.f6), (11, Tryz.f11), (10, Tryz.f10), (9, Tryz.f9), (13, Tryz.f13), (12, Tryz.f12), (20, Tryz.f20), (17, Tryz.f17), (16, Tryz.f16), (15, Tryz.f15), (19, Tryz.f19), (18, Tryz.f18), (23, Tryz.f23), (22, Tryz.f22), (21, Tryz.f21), (24, Tryz.f24), (37, Tryz.f37), (31, Tryz.f31), (28, Tryz.f28), (27, Tryz.f27), (26, Tryz.f26), (30, Tryz.f30), (29, Tryz.f29), (35, Tryz.f35), (34, Tryz.f34), (32, Tryz.f32), (36, Tryz.f36), (43, Tryz.f43), (40, Tryz.f40), (39, Tryz.f39), (38, Tryz.f38), (42, Tryz.f42), (41, Tryz.f41), (46, Tryz.f46), (45, Tryz.f45), (44, Tryz.f44), (47, Tryz.f47), (73, Tryz.f73), (61, Tryz.f61), (54, Tryz.f54), (51, Tryz.f51), (50, Tryz.f50), (49, Tryz.f49), (53, Tryz.f53), (52, Tryz.f52), (57, Tryz.f57), (56, Tryz.f56), (55, Tryz.f55), (59, Tryz.f59), (58, Tryz.f58), (68, Tryz.f68), (65, Tryz.f65), (63, Tryz.f63), (62, Tryz.f62), (67, Tryz.f67), (66, Tryz.f66), (71, Tryz.f71), (70, Tryz.f70), (69, Tryz.f69), (72, Tryz.f72), (90, Tryz.f90), (82, Tryz.f82), (79, Tryz.f79), (77, Tryz.f77), (74, Tryz.f74), (81, Tryz.f81), (80, Tryz.f80), (88, Tryz.f88), (86, Tryz.f86), (83, Tryz.f83), (89, Tryz.f89), (102, Tryz.f102), (93, Tryz.f93), (92, Tryz.f92), (91, Tryz.f91), (99, Tryz.f99), (96, Tryz.f96), (116, Tryz.f116), (115, Tryz.f115), (114, Tryz.f114), (130, Tryz.f130)], Tryz.prog.funcs[p.1]? = some p.2
  intro p hp
  simp only [List.mem_cons, List.not_mem_nil, or_false] at hp
  rcases hp with rfl | rfl | rfl | rfl | rfl | rfl | rfl | rfl | rfl | rfl | rfl | rfl | rfl | rfl | rfl | rfl | rfl | rfl | rfl | rfl | rfl | rfl | rfl | rfl | rfl | rfl | rfl | rfl | rfl | rfl | rfl | rfl | rfl | rfl | rfl | rfl | rfl | rfl | rfl | rfl | rfl | rfl | rfl | rfl | rfl | rfl | rfl | rfl | rfl | rfl | rfl | rfl | rfl | rfl | rfl | rfl | rfl | rfl | rfl | rfl | rfl | rfl | rfl | rfl | rfl | rfl | rfl | rfl | rfl | rfl | rfl | rfl | rfl | rfl | rfl | rfl | rfl | rfl | rfl | rfl | rfl | rfl | rfl | rfl | rfl | rfl | rfl | rfl | rfl
  · exact Tryz.func48
  · exact Tryz.func25
  · exact Tryz.func14
  · exact Tryz.func8
  · exact Tryz.func5
  · exact Tryz.func4
  · exact Tryz.func3
  · exact Tryz.func7
  · exact Tryz.func6
  · exact Tryz.func11
  · exact Tryz.func10
  · exact Tryz.func9
  · exact Tryz.func13
  · exact Tryz.func12
  · exact Tryz.func20
  · exact Tryz.func17
  · exact Tryz.func16
  · exact Tryz.func15
  · exact Tryz.func19
  · exact Tryz.func18
  · exact Tryz.func23
  · exact Tryz.func22
  · exact Tryz.func21
  · exact Tryz.func24
  · exact Tryz.func37
  · exact Tryz.func31
  · exact Tryz.func28
  · exact Tryz.func27
  · exact Tryz.func26
  · exact Tryz.func30
  · exact Tryz.func29
  · exact Tryz.func35
  · exact Tryz.func34
  · exact Tryz.func32
  · exact Tryz.func36
  · exact Tryz.func43
  · exact Tryz.func40
  · exact Tryz.func39
  · exact Tryz.func38
  · exact Tryz.func42
  · exact Tryz.func41
  · exact Tryz.func46
  · exact Tryz.func45
  · exact Tryz.func44
  · exact Tryz.func47
  · exact Tryz.func73
  · exact Tryz.func61
  · exact Tryz.func54
  · exact Tryz.func51
  · exact Tryz.func50
  · exact Tryz.func49
  · exact Tryz.func53
  · exact Tryz.func52
  · exact Tryz.func57
  · exact Tryz.func56
  · exact Tryz.func55
  · exact Tryz.func59
  · exact Tryz.func58
  · exact Tryz.func68
  · exact Tryz.func65
  · exact Tryz.func63
  · exact Tryz.func62
  · exact Tryz.func67
  · exact Tryz.func66
  · exact Tryz.func71
  · exact Tryz.func70
  · exact Tryz.func69
  · exact Tryz.func72
  · exact Tryz.func90
  · exact Tryz.func82
  · exact Tryz.func79
  · exact Tryz.func77
  · exact Tryz.func74
  · exact Tryz.func81
  · exact Tryz.func80
  · exact Tryz.func88
  · exact Tryz.func86
  · exact Tryz.func83
  · exact Tryz.func89
  · exact Tryz.func102
  · exact Tryz.func93
  · exact Tryz.func92
  · exact Tryz.func91
  · exact Tryz.func99
  · exact Tryz.func96
  · exact Tryz.func116
  · exact Tryz.func115
  · exact Tryz.func114
  · exact Tryz.func130
theorem fns [Dfr] : ∀ f fn, E.fn f = some fn → Tryz.prog.funcs[f]? = some fn ∧ (fn.name == "runtime.NumGoroutine") = false ∧ ∀ c, fn.body = some c → dstsOK fn.ntmps c = true := fun f fn h => by
  have hm : (f, fn) ∈ fnT.list := Tree.find_mem h
  have h1 := List.all_eq_true.1 dsts _ hm
  simp only [Bool.and_eq_true, Bool.not_eq_true'] at h1
  exact ⟨funcs _ hm, h1.1, fun c hc => by have h2 := h1.2; rw [hc] at h2; exact h2⟩
theorem foreign33 [Dfr] : Callable Tryz.prog 33 ∧ ∀ x r, frn33 x = some r → Contract Tryz.prog E 33 x r := by
  refine ⟨⟨Tryz.f33, Tryz.func33, by kernel_rfl, by kernel_rfl⟩, fun x r h => ?_⟩
  have h' : (bif roomOk (List.length x) 32 then some x else none) = some r := h
  cases hr : roomOk (List.length x) 32 with
  | false => rw [hr] at h'; cases h'
  | true =>
    rw [hr] at h'
    cases h'
    exact clone_contract tab Tryz.func33 rfl rfl rfl rfl (show E.sig 33 = _ from rfl) (show E.ti 22 = some _ from rfl) rfl rfl (show E.ti 39 = some _ from rfl) (by decide) rfl rfl HEq.rfl HEq.rfl hr rfl
theorem foreign60 [Dfr] : Callable Tryz.prog 60 ∧ ∀ x r, frn60 x = some r → Contract Tryz.prog E 60 x r := by
  refine ⟨⟨Tryz.f60, Tryz.func60, by kernel_rfl, by kernel_rfl⟩, fun x r h => ?_⟩
  have h' : (bif roomOk (List.length x) 16 then some x else none) = some r := h
  cases hr : roomOk (List.length x) 16 with
  | false => rw [hr] at h'; cases h'
  | true =>
    rw [hr] at h'
    cases h'
    exact clone_contract tab Tryz.func60 rfl rfl rfl rfl (show E.sig 60 = _ from rfl) (show E.ti 37 = some _ from rfl) rfl rfl (show E.ti 9 = some _ from rfl) (by decide) rfl rfl HEq.rfl HEq.rfl hr rfl
theorem foreign75 [Dfr] : Callable Tryz.prog 75 ∧ ∀ x r, frn75 x = some r → Contract Tryz.prog E 75 x r := by
  refine ⟨⟨Tryz.f75, Tryz.func75, by kernel_rfl, by kernel_rfl⟩, fun x r h => ?_⟩
  have h' : (bif roomOk (List.length x) 32 then some x else none) = some r := h
  cases hr : roomOk (List.length x) 32 with
  | false => rw [hr] at h'; cases h'
  | true =>
    rw [hr] at h'
    cases h'
    exact clone_contract tab Tryz.func75 rfl rfl rfl rfl (show E.sig 75 = _ from rfl) (show E.ti 26 = some _ from rfl) rfl rfl (show E.ti 49 = some _ from rfl) (by decide) rfl rfl HEq.rfl HEq.rfl hr rfl
theorem foreign100 [Dfr] : Callable Tryz.prog 100 ∧ ∀ x r, frn100 x = some r → Contract Tryz.prog E 100 x r :=
  ⟨⟨Tryz.f100, Tryz.func100, by kernel_rfl, by kernel_rfl⟩, fun x r h => trim_contract (E := E) (f := 100) rfl (fun s c w h1 h2 h3 => trim_drawn Tryz.lays160 (by kernel_rfl) s c w h1 h2 (ascii_of_all h3)) x r x r HEq.rfl HEq.rfl h⟩
theorem foreigns [Dfr] [DfrOK] : ∀ f g, E.foreign f = some g → Callable Tryz.prog f ∧ ∀ x r, g x = some r → Contract Tryz.prog E f x r := fun f g h => by
  have h' : frT f = some g := h
  unfold frT at h'
  split at h'
  · rename_i hf
    subst hf
    cases h'
    exact foreign100
  split at h'
  · rename_i hf
    subst hf
    cases h'
    exact foreign75
  split at h'
  · rename_i hf
    subst hf
    cases h'
    exact DfrOK.c_trace_Mix
  split at h'
  · rename_i hf
    subst hf
    cases h'
    exact foreign60
  split at h'
  · rename_i hf
    subst hf
    cases h'
    exact foreign33
  cases h'
theorem envOK [Dfr] [DfrOK] : EnvOK Tryz.prog E := ⟨tab, fns, foreigns⟩
end Go.Proofs.YthhefjmdfdckjaaGreatDoor.Sv
