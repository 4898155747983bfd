/- The tables of the seat are those of the program: checked by the kernel. Written by a program (emit3.py). -/

import Derived.Test.YtlnpacehjfoffaaDoorSvE
import Derived.Test.YtlnpacehjfoffaaDoorSvT
namespace Go.Proofs.YtlnpacehjfoffaaDoor.Sv
open Go Go.Sv Go.Proofs
set_option linter.unusedVariables false
set_option maxRecDepth 100000
set_option maxHeartbeats 4000000
theorem rows : (tiT.list.all fun p => rowIs Tryd.prog p.1 p.2) = true := by kernel_rfl
theorem eqRows : (tiT.list.all fun p => !p.2.eq || Nat.beq p.1 30) = true := by kernel_rfl
theorem eq30 : (T30).flat = true ∧ ∀ (w : World) (op : BinOp) (x y : Operand) (a b : (T30).den), (eqGuard op 30 x y (.agg (flatVals T30 a).toArray) (.agg (flatVals T30 b).toArray)).run Tryd.prog w = .ok () w ∧ (Op.equalIn 10000 30 (.agg (flatVals T30 a).toArray) (.agg (flatVals T30 b).toArray)).run Tryd.prog w = .ok (eqD T30 a b) w := eq_fit rfl (by kernel_rfl) (by kernel_rfl) (by kernel_rfl) (by kernel_rfl)
theorem types : TypesOK Tryd.prog E := ⟨fun t i h => by
  have hm : (t, i) ∈ tiT.list := Tree.find_mem h
  refine rowIs_ok (List.all_eq_true.1 rows _ hm) fun he u hu => ?_
  have h1 := List.all_eq_true.1 eqRows _ hm
  simp only [he, Bool.not_true, Bool.false_or] at h1
  have h2 : t = 30 := Nat.eq_of_beq_eq_true h1
  subst h2
  cases h.symm.trans (show E.ti 30 = some _ from rfl)
  cases hu
  exact eq30⟩
theorem tab : TabOK Tryd.prog E := ⟨by kernel_rfl, types, elemIs_ok fun t i h => List.all_eq_true.1 rows _ (Tree.find_mem h)⟩
theorem dsts : (fnT.list.all fun p => !(p.2.name == "runtime.NumGoroutine") && (match p.2.body with | some c => dstsOK p.2.ntmps c | none => true)) = true := by kernel_rfl
theorem funcs : ∀ p ∈ fnT.list, Tryd.prog.funcs[p.1]? = some p.2 := by
  show ∀ p ∈ [(43, Tryd.f43), (23, Tryd.f23), (13, Tryd.f13), (8, Tryd.f8), (5, Tryd.f5), (4, Tryd.f4), (3, Tryd.f3), (7, Tryd.f7), (6, Tryd.f6), (11, Tryd.f11), (10, Tryd.f10), (9, Tryd.f9), (12, Tryd.f12), (18, Tryd.f18), (16, Tryd.f16), (15, Tryd.f15), (14, Tryd.f14), (17, Tryd.f17), (21, Tryd.f21), (20, Tryd.f20), (19, Tryd.f19), (22, Tryd.f22), (33, Tryd.f33), (28, Tryd.f28), (26, Tryd.f26), (25, Tryd.f25), (24, Tryd.f24), (27, Tryd.f27), (31, Tryd.f31), (30, Tryd.f30), (29, Tryd.f29), (32, Tryd.f32), (38, Tryd.f38), (36, Tryd.f36), (35, Tryd.f35), (34, Tryd.f34), (37, Tryd.f37), (41, Tryd.f41), (40, Tryd.f40), (39, Tryd.f39), (42, Tryd.f42), (65, Tryd.f65), (54, Tryd.f54), (49, Tryd.f49), (46, Tryd.f46), (45, Tryd.f45), (44, Tryd.f44), (48, Tryd.f48), (47, Tryd.f47), (52, Tryd.f52), (51, Tryd.f51), (50, Tryd.f50), (53, Tryd.f53), (59, Tryd.f59), (57, Tryd.f57), (56, Tryd.f56), (55, Tryd.f55), (58, Tryd.f58), (63, Tryd.f63), (62, Tryd.f62), (60, Tryd.f60), (64, Tryd.f64), (75, Tryd.f75), (70, Tryd.f70), (68, Tryd.f68), (67, Tryd.f67), (66, Tryd.f66), (69, Tryd.f69), (73, Tryd.f73), (72, Tryd.f72), (71, Tryd.f71), (74, Tryd.f74), (80, Tryd.f80), (78, Tryd.f78), (77, Tryd.f77), (76, Tryd.f76), (79, Tryd.f79), (84, Tryd.f84), (82, Tryd.f82), (81, Tryd.f81), (85, Tryd.f85)], Tryd.prog.funcs[p.1]? = some p.2
  intro p hp
  simp only [List.mem_cons, List.not_mem_nil, or_false] at hp
  rcases hp with rfl | rfl | rfl | rfl | rfl | rfl | rfl | rfl | rfl | rfl | rfl | rfl | rfl | rfl | rfl | rfl | rfl | rfl | rfl | rfl | rfl | rfl | rfl | rfl | rfl | rfl | rfl | rfl | rfl | rfl | rfl | rfl | rfl | rfl | rfl | rfl | rfl | rfl | rfl | rfl | rfl | rfl | rfl | rfl | rfl | rfl | rfl | rfl | rfl | rfl | rfl | rfl | rfl | rfl | rfl | rfl | rfl | rfl | rfl | rfl | rfl | rfl | rfl | rfl | rfl | rfl | rfl | rfl | rfl | rfl | rfl | rfl | rfl | rfl | rfl | rfl | rfl | rfl | rfl | rfl | rfl
  · exact Tryd.func43
  · exact Tryd.func23
  · exact Tryd.func13
  · exact Tryd.func8
  · exact Tryd.func5
  · exact Tryd.func4
  · exact Tryd.func3
  · exact Tryd.func7
  · exact Tryd.func6
  · exact Tryd.func11
  · exact Tryd.func10
  · exact Tryd.func9
  · exact Tryd.func12
  · exact Tryd.func18
  · exact Tryd.func16
  · exact Tryd.func15
  · exact Tryd.func14
  · exact Tryd.func17
  · exact Tryd.func21
  · exact Tryd.func20
  · exact Tryd.func19
  · exact Tryd.func22
  · exact Tryd.func33
  · exact Tryd.func28
  · exact Tryd.func26
  · exact Tryd.func25
  · exact Tryd.func24
  · exact Tryd.func27
  · exact Tryd.func31
  · exact Tryd.func30
  · exact Tryd.func29
  · exact Tryd.func32
  · exact Tryd.func38
  · exact Tryd.func36
  · exact Tryd.func35
  · exact Tryd.func34
  · exact Tryd.func37
  · exact Tryd.func41
  · exact Tryd.func40
  · exact Tryd.func39
  · exact Tryd.func42
  · exact Tryd.func65
  · exact Tryd.func54
  · exact Tryd.func49
  · exact Tryd.func46
  · exact Tryd.func45
  · exact Tryd.func44
  · exact Tryd.func48
  · exact Tryd.func47
  · exact Tryd.func52
  · exact Tryd.func51
  · exact Tryd.func50
  · exact Tryd.func53
  · exact Tryd.func59
  · exact Tryd.func57
  · exact Tryd.func56
  · exact Tryd.func55
  · exact Tryd.func58
  · exact Tryd.func63
  · exact Tryd.func62
  · exact Tryd.func60
  · exact Tryd.func64
  · exact Tryd.func75
  · exact Tryd.func70
  · exact Tryd.func68
  · exact Tryd.func67
  · exact Tryd.func66
  · exact Tryd.func69
  · exact Tryd.func73
  · exact Tryd.func72
  · exact Tryd.func71
  · exact Tryd.func74
  · exact Tryd.func80
  · exact Tryd.func78
  · exact Tryd.func77
  · exact Tryd.func76
  · exact Tryd.func79
  · exact Tryd.func84
  · exact Tryd.func82
  · exact Tryd.func81
  · exact Tryd.func85
theorem fns : ∀ f fn, E.fn f = some fn → Tryd.prog.funcs[f]? = some fn ∧ (fn.name == "runtime.NumGoroutine") = false ∧ ∀ c, fn.body = some c → dstsOK fn.ntmps c = true := fun f fn h => by
  have hm : (f, fn) ∈ fnT.list := Tree.find_mem h
  have h1 := List.all_eq_true.1 dsts _ hm
  simp only [Bool.and_eq_true, Bool.not_eq_true'] at h1
  exact ⟨funcs _ hm, h1.1, fun c hc => by have h2 := h1.2; rw [hc] at h2; exact h2⟩
theorem foreign61 : Callable Tryd.prog 61 ∧ ∀ x r, frn61 x = some r → Contract Tryd.prog E 61 x r := by
  refine ⟨⟨Tryd.f61, Tryd.func61, by kernel_rfl, by kernel_rfl⟩, fun x r h => ?_⟩
  have h' : (bif roomOk (List.length x) 32 then some x else none) = some r := h
  cases hr : roomOk (List.length x) 32 with
  | false => rw [hr] at h'; cases h'
  | true =>
    rw [hr] at h'
    cases h'
    exact clone_contract tab Tryd.func61 rfl rfl rfl rfl (show E.sig 61 = _ from rfl) (show E.ti 22 = some _ from rfl) rfl rfl (show E.ti 30 = some _ from rfl) (by decide) rfl rfl HEq.rfl HEq.rfl hr
theorem foreign83 : Callable Tryd.prog 83 ∧ ∀ x r, frn83 x = some r → Contract Tryd.prog E 83 x r :=
  ⟨⟨Tryd.f83, Tryd.func83, by kernel_rfl, by kernel_rfl⟩, fun x r h => trim_contract (E := E) (f := 83) rfl (fun s c w h1 h2 h3 => Any.strings_Trim_laid Tryd.lays160 (by kernel_rfl) s c w h1 h2 (ascii_of_all h3)) x r x r HEq.rfl HEq.rfl h⟩
theorem foreigns : ∀ f g, E.foreign f = some g → Callable Tryd.prog f ∧ ∀ x r, g x = some r → Contract Tryd.prog E f x r := fun f g h => by
  have h' : frT f = some g := h
  unfold frT at h'
  split at h'
  · rename_i hf
    subst hf
    cases h'
    exact foreign83
  split at h'
  · rename_i hf
    subst hf
    cases h'
    exact foreign61
  cases h'
theorem envOK : EnvOK Tryd.prog E := ⟨tab, fns, foreigns⟩
end Go.Proofs.YtlnpacehjfoffaaDoor.Sv
