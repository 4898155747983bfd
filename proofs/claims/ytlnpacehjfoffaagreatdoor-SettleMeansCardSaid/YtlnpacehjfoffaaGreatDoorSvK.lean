/- The tables of the seat are those of the program: checked by the kernel. Written by a program (emit3.py). -/

import Derived.Test.YtlnpacehjfoffaaGreatDoorSvE
import Derived.Test.YtlnpacehjfoffaaGreatDoorSvT
import Derived.Test.YtlnpacehjfoffaaGreatDoorSvS
import Derived.Test.YtlnpacehjfoffaaGreatDoorEv8
namespace Go.Proofs.YtlnpacehjfoffaaGreatDoor.Sv
open Go Go.Sv Go.Proofs
set_option linter.unusedVariables false
set_option maxRecDepth 100000
set_option maxHeartbeats 4000000
class DfrOK [Dfr] : Prop where
  c_trace_Mix : Callable Tryz.prog 83 ∧ ∀ x r, frn83 x = some r → Contract Tryz.prog E 83 x r
/-- A contract hangs not on what is asked of others. -/
theorem contract_any {d d' : Dfr} {f : Nat} {x : Tup (sg f).args} {r : Tup (sg f).res} (h : Contract Tryz.prog (@E d) f x r) : Contract Tryz.prog (@E d') f x r := fun w F0 G A vs hA => h w F0 G A vs ⟨hA.rel, hA.bx, hA.tgm, hA.tgi, hA.f0, hA.glob⟩
theorem rows [Dfr] : (tiT.list.all fun p => rowIs Tryz.prog p.1 p.2) = true := by kernel_rfl
theorem eqRows [Dfr] : (tiT.list.all fun p => !p.2.eq || Nat.beq p.1 42) = true := by kernel_rfl
theorem eq42 [Dfr] : (T42).flat = true ∧ ∀ (w : World) (op : BinOp) (x y : Operand) (a b : (T42).den), (eqGuard op 42 x y (.agg (flatVals T42 a).toArray) (.agg (flatVals T42 b).toArray)).run Tryz.prog w = .ok () w ∧ (Op.equalIn 10000 42 (.agg (flatVals T42 a).toArray) (.agg (flatVals T42 b).toArray)).run Tryz.prog w = .ok (eqD T42 a b) w := eq_fit rfl (by kernel_rfl) (by kernel_rfl) (by kernel_rfl) (by kernel_rfl)
theorem types [Dfr] : TypesOK Tryz.prog E := ⟨fun t i h => by
  have hm : (t, i) ∈ tiT.list := Tree.find_mem h
  refine rowIs_ok (List.all_eq_true.1 rows _ hm) fun he u hu => ?_
  have h1 := List.all_eq_true.1 eqRows _ hm
  simp only [he, Bool.not_true, Bool.false_or] at h1
  have h2 : t = 42 := Nat.eq_of_beq_eq_true h1
  subst h2
  cases h.symm.trans (show E.ti 42 = some _ from rfl)
  cases hu
  exact eq42⟩
theorem rowsRun85 [Dfr] : RowsRun Tryz.prog E 85 false 52 T52 := sortRuns_agg (ρ := Tryz.sort85_ren) Tryz.sort85 rfl Tryz.isAgg52 Tryz.sizeOf52 ⟨Tryz.f85, Tryz.func85, by kernel_rfl, by kernel_rfl⟩
theorem rowsRun87 [Dfr] : RowsRun Tryz.prog E 87 true 52 T52 := compactRuns_agg (T := 27) (e := 52) (B := 4) (I := 3) (FT := 108) (U := 0) ⟨by kernel_rfl, Tryz.underlying0, Tryz.underlying3, Tryz.underlying4, Tryz.underlying27, ⟨_, _, Tryz.underlying108⟩, Tryz.isAgg0, Tryz.isAgg3, Tryz.isAgg4, Tryz.isAgg27, Tryz.isAgg108, Tryz.sizeOf3, Tryz.sizeOf4, Tryz.sizeOf27, Tryz.sizeOf108⟩ ⟨Tryz.f87.name, by decide, Tryz.func87.trans (congrArg some (by kernel_rfl))⟩ rfl Tryz.isAgg52 Tryz.sizeOf52 _ Tryz.zeroValue52 rfl (by decide) ⟨Tryz.f87, Tryz.func87, by kernel_rfl, by kernel_rfl⟩
theorem rowsRun94 [Dfr] : RowsRun Tryz.prog E 94 false 58 T58 := sortRuns_agg (ρ := Tryz.sort94_ren) Tryz.sort94 rfl Tryz.isAgg58 Tryz.sizeOf58 ⟨Tryz.f94, Tryz.func94, by kernel_rfl, by kernel_rfl⟩
theorem rowsRun95 [Dfr] : RowsRun Tryz.prog E 95 true 58 T58 := compactRuns_agg (T := 34) (e := 58) (B := 4) (I := 3) (FT := 115) (U := 0) ⟨by kernel_rfl, Tryz.underlying0, Tryz.underlying3, Tryz.underlying4, Tryz.underlying34, ⟨_, _, Tryz.underlying115⟩, Tryz.isAgg0, Tryz.isAgg3, Tryz.isAgg4, Tryz.isAgg34, Tryz.isAgg115, Tryz.sizeOf3, Tryz.sizeOf4, Tryz.sizeOf34, Tryz.sizeOf115⟩ ⟨Tryz.f95.name, by decide, Tryz.func95.trans (congrArg some (by kernel_rfl))⟩ rfl Tryz.isAgg58 Tryz.sizeOf58 _ Tryz.zeroValue58 rfl (by decide) ⟨Tryz.f95, Tryz.func95, by kernel_rfl, by kernel_rfl⟩
theorem rowsRun103 [Dfr] : RowsRun Tryz.prog E 103 false 50 ((.slice 9 .str)) := sortRuns_one (ρ := Tryz.sort103_ren) Tryz.sort103 rfl ⟨Tryz.f103, Tryz.func103, by kernel_rfl, by kernel_rfl⟩
theorem rowsRun105 [Dfr] : RowsRun Tryz.prog E 105 true 50 ((.slice 9 .str)) := compactRuns_one (T := 102) (e := 50) (B := 4) (I := 3) (FT := 124) (U := 0) ⟨by kernel_rfl, Tryz.underlying0, Tryz.underlying3, Tryz.underlying4, Tryz.underlying102, ⟨_, _, Tryz.underlying124⟩, Tryz.isAgg0, Tryz.isAgg3, Tryz.isAgg4, Tryz.isAgg102, Tryz.isAgg124, Tryz.sizeOf3, Tryz.sizeOf4, Tryz.sizeOf102, Tryz.sizeOf124⟩ ⟨Tryz.f105.name, by decide, Tryz.func105.trans (congrArg some (by kernel_rfl))⟩ rfl Tryz.isAgg50 Tryz.sizeOf50 _ Tryz.zeroValue50 rfl (by decide) ⟨Tryz.f105, Tryz.func105, by kernel_rfl, by kernel_rfl⟩
theorem rowsOK [Dfr] : RowsOK Tryz.prog E := fun f b e u h => by
  have h' : rowsT f = some (b, e, u) := h
  unfold rowsT at h'
  split at h'
  · rename_i hf
    subst hf
    cases h'
    exact rowsRun85
  split at h'
  · rename_i hf
    subst hf
    cases h'
    exact rowsRun87
  split at h'
  · rename_i hf
    subst hf
    cases h'
    exact rowsRun94
  split at h'
  · rename_i hf
    subst hf
    cases h'
    exact rowsRun95
  split at h'
  · rename_i hf
    subst hf
    cases h'
    exact rowsRun103
  split at h'
  · rename_i hf
    subst hf
    cases h'
    exact rowsRun105
  cases h'
theorem revsOK [Dfr] : RevsOK Tryz.prog E := fun f e u h => by
  have h' : revsT f = some (e, u) := h
  unfold revsT at h'
  cases h'
theorem tab [Dfr] : TabOK Tryz.prog E := ⟨by kernel_rfl, types, elemIs_ok fun t i h => List.all_eq_true.1 rows _ (Tree.find_mem h), rowsOK, pins_none fun _ _ _ _ _ _ => rfl, revsOK⟩
theorem dsts [Dfr] : (fnT.list.all fun p => !(p.2.name == "runtime.NumGoroutine") && (match p.2.body with | some c => dstsOK p.2.ntmps c | none => true)) = true := by kernel_rfl
theorem funcs [Dfr] : ∀ p ∈ fnT.list, Tryz.prog.funcs[p.1]? = some p.2 := by
  show ∀ p ∈ [(53, Tryz.f53), (28, Tryz.f28), (15, Tryz.f15), (9, Tryz.f9), (6, Tryz.f6), (4, Tryz.f4), (3, Tryz.f3), (5, Tryz.f5), (8, Tryz.f8), (7, Tryz.f7), (12, Tryz.f12), (11, Tryz.f11), (10, Tryz.f10), (14, Tryz.f14), (13, Tryz.f13), (22, Tryz.f22), (19, Tryz.f19), (17, Tryz.f17), (16, Tryz.f16), (18, Tryz.f18), (21, Tryz.f21), (20, Tryz.f20), (25, Tryz.f25), (24, Tryz.f24), (23, Tryz.f23), (27, Tryz.f27), (26, Tryz.f26), (41, Tryz.f41), (35, Tryz.f35), (32, Tryz.f32), (30, Tryz.f30), (29, Tryz.f29), (31, Tryz.f31), (34, Tryz.f34), (33, Tryz.f33), (38, Tryz.f38), (37, Tryz.f37), (36, Tryz.f36), (40, Tryz.f40), (39, Tryz.f39), (47, Tryz.f47), (44, Tryz.f44), (43, Tryz.f43), (42, Tryz.f42), (46, Tryz.f46), (45, Tryz.f45), (50, Tryz.f50), (49, Tryz.f49), (48, Tryz.f48), (52, Tryz.f52), (51, Tryz.f51), (81, Tryz.f81), (66, Tryz.f66), (60, Tryz.f60), (57, Tryz.f57), (55, Tryz.f55), (54, Tryz.f54), (56, Tryz.f56), (59, Tryz.f59), (58, Tryz.f58), (63, Tryz.f63), (62, Tryz.f62), (61, Tryz.f61), (65, Tryz.f65), (64, Tryz.f64), (74, Tryz.f74), (70, Tryz.f70), (68, Tryz.f68), (67, Tryz.f67), (69, Tryz.f69), (73, Tryz.f73), (72, Tryz.f72), (77, Tryz.f77), (76, Tryz.f76), (75, Tryz.f75), (79, Tryz.f79), (78, Tryz.f78), (100, Tryz.f100), (92, Tryz.f92), (89, Tryz.f89), (86, Tryz.f86), (82, Tryz.f82), (88, Tryz.f88), (91, Tryz.f91), (90, Tryz.f90), (97, Tryz.f97), (96, Tryz.f96), (93, Tryz.f93), (99, Tryz.f99), (98, Tryz.f98), (114, Tryz.f114), (106, Tryz.f106), (104, Tryz.f104), (101, Tryz.f101), (112, Tryz.f112), (109, Tryz.f109), (135, Tryz.f135), (134, Tryz.f134), (125, Tryz.f125), (150, Tryz.f150), (141, Tryz.f141)], Tryz.prog.funcs[p.1]? = some p.2
  intro p hp
  simp only [List.mem_cons, List.not_mem_nil, or_false] at hp
  rcases hp with rfl | rfl | rfl | rfl | rfl | rfl | rfl | rfl | rfl | rfl | rfl | rfl | rfl | rfl | rfl | rfl | rfl | rfl | rfl | rfl | rfl | rfl | rfl | rfl | rfl | rfl | rfl | rfl | rfl | rfl | rfl | rfl | rfl | rfl | rfl | rfl | rfl | rfl | rfl | rfl | rfl | rfl | rfl | rfl | rfl | rfl | rfl | rfl | rfl | rfl | rfl | rfl | rfl | rfl | rfl | rfl | rfl | rfl | rfl | rfl | rfl | rfl | rfl | rfl | rfl | rfl | rfl | rfl | rfl | rfl | rfl | rfl | rfl | rfl | rfl | rfl | rfl | rfl | rfl | rfl | rfl | rfl | rfl | rfl | rfl | rfl | rfl | rfl | rfl | rfl | rfl | rfl | rfl | rfl | rfl | rfl | rfl | rfl | rfl | rfl | rfl
  · exact Tryz.func53
  · exact Tryz.func28
  · exact Tryz.func15
  · exact Tryz.func9
  · exact Tryz.func6
  · exact Tryz.func4
  · exact Tryz.func3
  · exact Tryz.func5
  · exact Tryz.func8
  · exact Tryz.func7
  · exact Tryz.func12
  · exact Tryz.func11
  · exact Tryz.func10
  · exact Tryz.func14
  · exact Tryz.func13
  · exact Tryz.func22
  · exact Tryz.func19
  · exact Tryz.func17
  · exact Tryz.func16
  · exact Tryz.func18
  · exact Tryz.func21
  · exact Tryz.func20
  · exact Tryz.func25
  · exact Tryz.func24
  · exact Tryz.func23
  · exact Tryz.func27
  · exact Tryz.func26
  · exact Tryz.func41
  · exact Tryz.func35
  · exact Tryz.func32
  · exact Tryz.func30
  · exact Tryz.func29
  · exact Tryz.func31
  · exact Tryz.func34
  · exact Tryz.func33
  · exact Tryz.func38
  · exact Tryz.func37
  · exact Tryz.func36
  · exact Tryz.func40
  · exact Tryz.func39
  · exact Tryz.func47
  · exact Tryz.func44
  · exact Tryz.func43
  · exact Tryz.func42
  · exact Tryz.func46
  · exact Tryz.func45
  · exact Tryz.func50
  · exact Tryz.func49
  · exact Tryz.func48
  · exact Tryz.func52
  · exact Tryz.func51
  · exact Tryz.func81
  · exact Tryz.func66
  · exact Tryz.func60
  · exact Tryz.func57
  · exact Tryz.func55
  · exact Tryz.func54
  · exact Tryz.func56
  · exact Tryz.func59
  · exact Tryz.func58
  · exact Tryz.func63
  · exact Tryz.func62
  · exact Tryz.func61
  · exact Tryz.func65
  · exact Tryz.func64
  · exact Tryz.func74
  · exact Tryz.func70
  · exact Tryz.func68
  · exact Tryz.func67
  · exact Tryz.func69
  · exact Tryz.func73
  · exact Tryz.func72
  · exact Tryz.func77
  · exact Tryz.func76
  · exact Tryz.func75
  · exact Tryz.func79
  · exact Tryz.func78
  · exact Tryz.func100
  · exact Tryz.func92
  · exact Tryz.func89
  · exact Tryz.func86
  · exact Tryz.func82
  · exact Tryz.func88
  · exact Tryz.func91
  · exact Tryz.func90
  · exact Tryz.func97
  · exact Tryz.func96
  · exact Tryz.func93
  · exact Tryz.func99
  · exact Tryz.func98
  · exact Tryz.func114
  · exact Tryz.func106
  · exact Tryz.func104
  · exact Tryz.func101
  · exact Tryz.func112
  · exact Tryz.func109
  · exact Tryz.func135
  · exact Tryz.func134
  · exact Tryz.func125
  · exact Tryz.func150
  · exact Tryz.func141
theorem fns [Dfr] : ∀ f fn, E.fn f = some fn → Tryz.prog.funcs[f]? = some fn ∧ (fn.name == "runtime.NumGoroutine") = false ∧ ∀ c, fn.body = some c → dstsOK fn.ntmps c = true := fun f fn h => by
  have hm : (f, fn) ∈ fnT.list := Tree.find_mem h
  have h1 := List.all_eq_true.1 dsts _ hm
  simp only [Bool.and_eq_true, Bool.not_eq_true'] at h1
  exact ⟨funcs _ hm, h1.1, fun c hc => by have h2 := h1.2; rw [hc] at h2; exact h2⟩
theorem foreign71 [Dfr] : Callable Tryz.prog 71 ∧ ∀ x r, frn71 x = some r → Contract Tryz.prog E 71 x r := by
  refine ⟨⟨Tryz.f71, Tryz.func71, by kernel_rfl, by kernel_rfl⟩, fun x r h => ?_⟩
  have h' : (bif roomOk (List.length x) 32 then some x else none) = some r := h
  cases hr : roomOk (List.length x) 32 with
  | false => rw [hr] at h'; cases h'
  | true =>
    rw [hr] at h'
    cases h'
    exact clone_contract tab Tryz.func71 rfl rfl rfl rfl (show E.sig 71 = _ from rfl) (show E.ti 22 = some _ from rfl) rfl rfl (show E.ti 42 = some _ from rfl) (by decide) rfl rfl HEq.rfl HEq.rfl hr rfl
theorem foreign80 [Dfr] : Callable Tryz.prog 80 ∧ ∀ x r, frn80 x = some r → Contract Tryz.prog E 80 x r := by
  refine ⟨⟨Tryz.f80, Tryz.func80, by kernel_rfl, by kernel_rfl⟩, fun x r h => ?_⟩
  have h' : (bif roomOk (List.length x) 16 then some x else none) = some r := h
  cases hr : roomOk (List.length x) 16 with
  | false => rw [hr] at h'; cases h'
  | true =>
    rw [hr] at h'
    cases h'
    exact clone_contract tab Tryz.func80 rfl rfl rfl rfl (show E.sig 80 = _ from rfl) (show E.ti 50 = some _ from rfl) rfl rfl (show E.ti 9 = some _ from rfl) (by decide) rfl rfl HEq.rfl HEq.rfl hr rfl
theorem foreign84 [Dfr] : Callable Tryz.prog 84 ∧ ∀ x r, frn84 x = some r → Contract Tryz.prog E 84 x r := by
  refine ⟨⟨Tryz.f84, Tryz.func84, by kernel_rfl, by kernel_rfl⟩, fun x r h => ?_⟩
  have h' : (bif roomOk (List.length x) 32 then some x else none) = some r := h
  cases hr : roomOk (List.length x) 32 with
  | false => rw [hr] at h'; cases h'
  | true =>
    rw [hr] at h'
    cases h'
    exact clone_contract tab Tryz.func84 rfl rfl rfl rfl (show E.sig 84 = _ from rfl) (show E.ti 27 = some _ from rfl) rfl rfl (show E.ti 52 = some _ from rfl) (by decide) rfl rfl HEq.rfl HEq.rfl hr rfl
theorem foreign111 [Dfr] : Callable Tryz.prog 111 ∧ ∀ x r, frn111 x = some r → Contract Tryz.prog E 111 x r :=
  ⟨⟨Tryz.f111, Tryz.func111, by kernel_rfl, by kernel_rfl⟩, fun x r h => trim_contract (E := E) (f := 111) rfl (fun s c w h1 h2 h3 => trim_drawn Tryz.lays160 (by kernel_rfl) s c w h1 h2 (ascii_of_all h3)) x r x r HEq.rfl HEq.rfl h⟩
theorem foreigns [Dfr] [DfrOK] : ∀ f g, E.foreign f = some g → Callable Tryz.prog f ∧ ∀ x r, g x = some r → Contract Tryz.prog E f x r := fun f g h => by
  have h' : frT f = some g := h
  unfold frT at h'
  split at h'
  · rename_i hf
    subst hf
    cases h'
    exact foreign111
  split at h'
  · rename_i hf
    subst hf
    cases h'
    exact foreign84
  split at h'
  · rename_i hf
    subst hf
    cases h'
    exact DfrOK.c_trace_Mix
  split at h'
  · rename_i hf
    subst hf
    cases h'
    exact foreign80
  split at h'
  · rename_i hf
    subst hf
    cases h'
    exact foreign71
  cases h'
theorem envOK [Dfr] [DfrOK] : EnvOK Tryz.prog E := ⟨tab, fns, foreigns⟩
end Go.Proofs.YtlnpacehjfoffaaGreatDoor.Sv
