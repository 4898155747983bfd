/- The tables of the seat are those of the program: checked by the kernel. Written by a program (emit3.py). -/

import Derived.Test.YtdbabacjmkfkgaaDoorSvE
import Derived.Test.YtdbabacjmkfkgaaDoorSvT
import Derived.Test.YtdbabacjmkfkgaaDoorSvS
import Derived.Test.YtdbabacjmkfkgaaDoorEv8
namespace Go.Proofs.YtdbabacjmkfkgaaDoor.Sv
open Go Go.Sv Go.Proofs
set_option linter.unusedVariables false
set_option maxRecDepth 100000
set_option maxHeartbeats 4000000
class DfrOK [Dfr] : Prop where
  c_plot_Over : Callable Tryd.prog 24 ∧ ∀ x r, frn24 x = some r → Contract Tryd.prog E 24 x r
/-- A contract hangs not on what is asked of others. -/
theorem contract_any {d d' : Dfr} {f : Nat} {x : Tup (sg f).args} {r : Tup (sg f).res} (h : Contract Tryd.prog (@E d) f x r) : Contract Tryd.prog (@E d') f x r := fun w F0 G A vs hA => h w F0 G A vs ⟨hA.rel, hA.bx, hA.tgm, hA.tgi, hA.f0, hA.glob⟩
theorem rows [Dfr] : (tiT.list.all fun p => rowIs Tryd.prog p.1 p.2) = true := by kernel_rfl
theorem eqRows [Dfr] : (tiT.list.all fun p => !p.2.eq || Nat.beq p.1 29) = true := by kernel_rfl
theorem eq29 [Dfr] : (T29).flat = true ∧ ∀ (w : World) (op : BinOp) (x y : Operand) (a b : (T29).den), (eqGuard op 29 x y (.agg (flatVals T29 a).toArray) (.agg (flatVals T29 b).toArray)).run Tryd.prog w = .ok () w ∧ (Op.equalIn 10000 29 (.agg (flatVals T29 a).toArray) (.agg (flatVals T29 b).toArray)).run Tryd.prog w = .ok (eqD T29 a b) w := eq_fit rfl (by kernel_rfl) (by kernel_rfl) (by kernel_rfl) (by kernel_rfl)
theorem types [Dfr] : TypesOK Tryd.prog E := ⟨fun t i h => by
  have hm : (t, i) ∈ tiT.list := Tree.find_mem h
  refine rowIs_ok (List.all_eq_true.1 rows _ hm) fun he u hu => ?_
  have h1 := List.all_eq_true.1 eqRows _ hm
  simp only [he, Bool.not_true, Bool.false_or] at h1
  have h2 : t = 29 := Nat.eq_of_beq_eq_true h1
  subst h2
  cases h.symm.trans (show E.ti 29 = some _ from rfl)
  cases hu
  exact eq29⟩
theorem rowsOK [Dfr] : RowsOK Tryd.prog E := fun f b e u h => by
  have h' : rowsT f = some (b, e, u) := h
  unfold rowsT at h'
  cases h'
theorem revRun49 [Dfr] : RevRun Tryd.prog 49 3 (.int .i64) := revRuns_int (ρ := Tryd.rev49_ren) Tryd.rev49 ⟨Tryd.f49, Tryd.func49, by kernel_rfl, by kernel_rfl⟩
theorem revsOK [Dfr] : RevsOK Tryd.prog E := fun f e u h => by
  have h' : revsT f = some (e, u) := h
  unfold revsT at h'
  split at h'
  · rename_i hf
    subst hf
    cases h'
    exact revRun49
  cases h'
theorem tab [Dfr] : TabOK Tryd.prog E := ⟨by kernel_rfl, types, elemIs_ok fun t i h => List.all_eq_true.1 rows _ (Tree.find_mem h), rowsOK, pins_none fun _ _ _ _ _ _ => rfl, revsOK⟩
theorem dsts [Dfr] : (fnT.list.all fun p => !(p.2.name == "runtime.NumGoroutine") && (match p.2.body with | some c => dstsOK p.2.ntmps c | none => true)) = true := by kernel_rfl
theorem funcs [Dfr] : ∀ p ∈ fnT.list, Tryd.prog.funcs[p.1]? = some p.2 := by
  show ∀ p ∈ [(37, Tryd.f37), (19, Tryd.f19), (11, Tryd.f11), (7, Tryd.f7), (5, Tryd.f5), (4, Tryd.f4), (3, Tryd.f3), (6, Tryd.f6), (9, Tryd.f9), (8, Tryd.f8), (10, Tryd.f10), (15, Tryd.f15), (13, Tryd.f13), (12, Tryd.f12), (14, Tryd.f14), (17, Tryd.f17), (16, Tryd.f16), (18, Tryd.f18), (29, Tryd.f29), (25, Tryd.f25), (22, Tryd.f22), (21, Tryd.f21), (20, Tryd.f20), (23, Tryd.f23), (27, Tryd.f27), (26, Tryd.f26), (28, Tryd.f28), (33, Tryd.f33), (31, Tryd.f31), (30, Tryd.f30), (32, Tryd.f32), (35, Tryd.f35), (34, Tryd.f34), (36, Tryd.f36), (56, Tryd.f56), (46, Tryd.f46), (42, Tryd.f42), (40, Tryd.f40), (39, Tryd.f39), (38, Tryd.f38), (41, Tryd.f41), (44, Tryd.f44), (43, Tryd.f43), (45, Tryd.f45), (52, Tryd.f52), (50, Tryd.f50), (48, Tryd.f48), (51, Tryd.f51), (54, Tryd.f54), (53, Tryd.f53), (55, Tryd.f55), (66, Tryd.f66), (61, Tryd.f61), (58, Tryd.f58), (57, Tryd.f57), (60, Tryd.f60), (64, Tryd.f64), (62, Tryd.f62), (65, Tryd.f65), (71, Tryd.f71), (68, Tryd.f68), (67, Tryd.f67), (69, Tryd.f69), (73, Tryd.f73), (72, Tryd.f72), (79, Tryd.f79)], Tryd.prog.funcs[p.1]? = some p.2
  intro p hp
  simp only [List.mem_cons, List.not_mem_nil, or_false] at hp
  rcases hp with rfl | rfl | rfl | rfl | rfl | rfl | rfl | rfl | rfl | rfl | rfl | rfl | rfl | rfl | rfl | rfl | rfl | rfl | rfl | rfl | rfl | rfl | rfl | rfl | rfl | rfl | rfl | rfl | rfl | rfl | rfl | rfl | rfl | rfl | rfl | rfl | rfl | rfl | rfl | rfl | rfl | rfl | rfl | rfl | rfl | rfl | rfl | rfl | rfl | rfl | rfl | rfl | rfl | rfl | rfl | rfl | rfl | rfl | rfl | rfl | rfl | rfl | rfl | rfl | rfl | rfl
  · exact Tryd.func37
  · exact Tryd.func19
  · exact Tryd.func11
  · exact Tryd.func7
  · exact Tryd.func5
  · exact Tryd.func4
  · exact Tryd.func3
  · exact Tryd.func6
  · exact Tryd.func9
  · exact Tryd.func8
  · exact Tryd.func10
  · exact Tryd.func15
  · exact Tryd.func13
  · exact Tryd.func12
  · exact Tryd.func14
  · exact Tryd.func17
  · exact Tryd.func16
  · exact Tryd.func18
  · exact Tryd.func29
  · exact Tryd.func25
  · exact Tryd.func22
  · exact Tryd.func21
  · exact Tryd.func20
  · exact Tryd.func23
  · exact Tryd.func27
  · exact Tryd.func26
  · exact Tryd.func28
  · exact Tryd.func33
  · exact Tryd.func31
  · exact Tryd.func30
  · exact Tryd.func32
  · exact Tryd.func35
  · exact Tryd.func34
  · exact Tryd.func36
  · exact Tryd.func56
  · exact Tryd.func46
  · exact Tryd.func42
  · exact Tryd.func40
  · exact Tryd.func39
  · exact Tryd.func38
  · exact Tryd.func41
  · exact Tryd.func44
  · exact Tryd.func43
  · exact Tryd.func45
  · exact Tryd.func52
  · exact Tryd.func50
  · exact Tryd.func48
  · exact Tryd.func51
  · exact Tryd.func54
  · exact Tryd.func53
  · exact Tryd.func55
  · exact Tryd.func66
  · exact Tryd.func61
  · exact Tryd.func58
  · exact Tryd.func57
  · exact Tryd.func60
  · exact Tryd.func64
  · exact Tryd.func62
  · exact Tryd.func65
  · exact Tryd.func71
  · exact Tryd.func68
  · exact Tryd.func67
  · exact Tryd.func69
  · exact Tryd.func73
  · exact Tryd.func72
  · exact Tryd.func79
theorem fns [Dfr] : ∀ f fn, E.fn f = some fn → Tryd.prog.funcs[f]? = some fn ∧ (fn.name == "runtime.NumGoroutine") = false ∧ ∀ c, fn.body = some c → dstsOK fn.ntmps c = true := fun f fn h => by
  have hm : (f, fn) ∈ fnT.list := Tree.find_mem h
  have h1 := List.all_eq_true.1 dsts _ hm
  simp only [Bool.and_eq_true, Bool.not_eq_true'] at h1
  exact ⟨funcs _ hm, h1.1, fun c hc => by have h2 := h1.2; rw [hc] at h2; exact h2⟩
theorem foreign59 [Dfr] : Callable Tryd.prog 59 ∧ ∀ x r, frn59 x = some r → Contract Tryd.prog E 59 x r := by
  refine ⟨⟨Tryd.f59, Tryd.func59, by kernel_rfl, by kernel_rfl⟩, fun x r h => ?_⟩
  have h' : (bif roomOk (List.length x) 32 then some x else none) = some r := h
  cases hr : roomOk (List.length x) 32 with
  | false => rw [hr] at h'; cases h'
  | true =>
    rw [hr] at h'
    cases h'
    exact clone_contract tab Tryd.func59 rfl rfl rfl rfl (show E.sig 59 = _ from rfl) (show E.ti 22 = some _ from rfl) rfl rfl (show E.ti 29 = some _ from rfl) (by decide) rfl rfl HEq.rfl HEq.rfl hr
theorem foreign70 [Dfr] : Callable Tryd.prog 70 ∧ ∀ x r, frn70 x = some r → Contract Tryd.prog E 70 x r :=
  ⟨⟨Tryd.f70, Tryd.func70, by kernel_rfl, by kernel_rfl⟩, fun x r h => trim_contract (E := E) (f := 70) rfl (fun s c w h1 h2 h3 => trim_drawn Tryd.lays160 (by kernel_rfl) s c w h1 h2 (ascii_of_all h3)) x r x r HEq.rfl HEq.rfl h⟩
theorem foreigns [Dfr] [DfrOK] : ∀ f g, E.foreign f = some g → Callable Tryd.prog f ∧ ∀ x r, g x = some r → Contract Tryd.prog E f x r := fun f g h => by
  have h' : frT f = some g := h
  unfold frT at h'
  split at h'
  · rename_i hf
    subst hf
    cases h'
    exact foreign70
  split at h'
  · rename_i hf
    subst hf
    cases h'
    exact foreign59
  split at h'
  · rename_i hf
    subst hf
    cases h'
    exact DfrOK.c_plot_Over
  cases h'
theorem envOK [Dfr] [DfrOK] : EnvOK Tryd.prog E := ⟨tab, fns, foreigns⟩
end Go.Proofs.YtdbabacjmkfkgaaDoor.Sv
