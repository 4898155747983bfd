/- The tables of the seat are those of the program: checked by the kernel. Written by a program (emit3.py). -/
import Derived.Test.YtjogkjgpbeenfaaDoorSvE
import Derived.Test.YtjogkjgpbeenfaaDoorSvT
import Derived.Test.YtjogkjgpbeenfaaDoorSvS
import Derived.Test.YtjogkjgpbeenfaaDoorEv8
namespace Go.Proofs.YtjogkjgpbeenfaaDoor.Sv
open Go Go.Sv Go.Proofs
set_option linter.unusedVariables false
set_option maxRecDepth 100000
set_option maxHeartbeats 4000000
class DfrOK [Dfr] : Prop where
  c_step_Put : Callable Tryd.prog 10 ∧ ∀ x r, frn10 x = some r → Contract Tryd.prog E 10 x r
  c_move_ways : Callable Tryd.prog 26 ∧ ∀ x r, frn26 x = some r → Contract Tryd.prog E 26 x r
  c_plot_Over : Callable Tryd.prog 43 ∧ ∀ x r, frn43 x = some r → Contract Tryd.prog E 43 x r
/-- A contract hangs not on what is asked of others. -/
theorem contract_any {d d' : Dfr} {f : Nat} {x : Tup (sg f).args} {r : Tup (sg f).res} (h : Contract Tryd.prog (@E d) f x r) : Contract Tryd.prog (@E d') f x r := fun w F0 G A vs hA => h w F0 G A vs ⟨hA.rel, hA.bx, hA.tgm, hA.tgi, hA.f0, hA.glob⟩
theorem rows [Dfr] : (tiT.list.all fun p => rowIs Tryd.prog p.1 p.2) = true := by kernel_rfl
theorem eqRows [Dfr] : (tiT.list.all fun p => !p.2.eq || Nat.beq p.1 28 || Nat.beq p.1 33) = true := by kernel_rfl
theorem eq28 [Dfr] : (T28).flat = true ∧ ∀ (w : World) (op : BinOp) (x y : Operand) (a b : (T28).den), (eqGuard op 28 x y (.agg (flatVals T28 a).toArray) (.agg (flatVals T28 b).toArray)).run Tryd.prog w = .ok () w ∧ (Op.equalIn 10000 28 (.agg (flatVals T28 a).toArray) (.agg (flatVals T28 b).toArray)).run Tryd.prog w = .ok (eqD T28 a b) w := eq_fit rfl (by kernel_rfl) (by kernel_rfl) (by kernel_rfl) (by kernel_rfl)
theorem eq33 [Dfr] : (T33).flat = true ∧ ∀ (w : World) (op : BinOp) (x y : Operand) (a b : (T33).den), (eqGuard op 33 x y (.agg (flatVals T33 a).toArray) (.agg (flatVals T33 b).toArray)).run Tryd.prog w = .ok () w ∧ (Op.equalIn 10000 33 (.agg (flatVals T33 a).toArray) (.agg (flatVals T33 b).toArray)).run Tryd.prog w = .ok (eqD T33 a b) w := eq_fit rfl (by kernel_rfl) (by kernel_rfl) (by kernel_rfl) (by kernel_rfl)
theorem types [Dfr] : TypesOK Tryd.prog E := ⟨fun t i h => by
  have hm : (t, i) ∈ tiT.list := Tree.find_mem h
  refine rowIs_ok (List.all_eq_true.1 rows _ hm) fun he u hu => ?_
  have h1 := List.all_eq_true.1 eqRows _ hm
  simp only [he, Bool.not_true, Bool.false_or, Bool.or_eq_true] at h1
  rcases h1 with h1 | h1
  · have h2 : t = 28 := Nat.eq_of_beq_eq_true h1
    subst h2
    cases h.symm.trans (show E.ti 28 = some _ from rfl)
    cases hu
    exact eq28
  · have h2 : t = 33 := Nat.eq_of_beq_eq_true h1
    subst h2
    cases h.symm.trans (show E.ti 33 = some _ from rfl)
    cases hu
    exact eq33⟩
theorem rowsOK [Dfr] : RowsOK Tryd.prog E := fun f b e u h => by
  have h' : rowsT f = some (b, e, u) := h
  unfold rowsT at h'
  cases h'
theorem revRun77 [Dfr] : RevRun Tryd.prog 77 3 (.int .i64) := revRuns_int (ρ := Tryd.rev77_ren) Tryd.rev77 ⟨Tryd.f77, Tryd.func77, by kernel_rfl, by kernel_rfl⟩
theorem revsOK [Dfr] : RevsOK Tryd.prog E := fun f e u h => by
  have h' : revsT f = some (e, u) := h
  unfold revsT at h'
  split at h'
  · rename_i hf
    subst hf
    cases h'
    exact revRun77
  cases h'
theorem tab [Dfr] : TabOK Tryd.prog E := ⟨by kernel_rfl, types, elemIs_ok fun t i h => List.all_eq_true.1 rows _ (Tree.find_mem h), rowsOK, pins_none fun _ _ _ _ _ _ => rfl, revsOK⟩
theorem dsts [Dfr] : (fnT.list.all fun p => !(p.2.name == "runtime.NumGoroutine") && (match p.2.body with | some c => dstsOK p.2.ntmps c | none => true)) = true := by kernel_rfl
theorem funcs [Dfr] : ∀ p ∈ fnT.list, Tryd.prog.funcs[p.1]? = some p.2 := by
  show ∀ p ∈ [(46, Tryd.f46), (24, Tryd.f24), (14, Tryd.f14), (8, Tryd.f8), (5, Tryd.f5), (4, Tryd.f4), (3, Tryd.f3), (7, Tryd.f7), (6, Tryd.f6), (12, Tryd.f12), (11, Tryd.f11), (9, Tryd.f9), (13, Tryd.f13), (19, Tryd.f19), (17, Tryd.f17), (16, Tryd.f16), (15, Tryd.f15), (18, Tryd.f18), (22, Tryd.f22), (21, Tryd.f21), (20, Tryd.f20), (23, Tryd.f23), (35, Tryd.f35), (30, Tryd.f30), (28, Tryd.f28), (27, Tryd.f27), (25, Tryd.f25), (29, Tryd.f29), (33, Tryd.f33), (32, Tryd.f32), (31, Tryd.f31), (34, Tryd.f34), (40, Tryd.f40), (38, Tryd.f38), (37, Tryd.f37), (36, Tryd.f36), (39, Tryd.f39), (44, Tryd.f44), (42, Tryd.f42), (41, Tryd.f41), (45, Tryd.f45), (68, Tryd.f68), (57, Tryd.f57), (52, Tryd.f52), (49, Tryd.f49), (48, Tryd.f48), (47, Tryd.f47), (51, Tryd.f51), (50, Tryd.f50), (55, Tryd.f55), (54, Tryd.f54), (53, Tryd.f53), (56, Tryd.f56), (63, Tryd.f63), (60, Tryd.f60), (59, Tryd.f59), (58, Tryd.f58), (62, Tryd.f62), (66, Tryd.f66), (65, Tryd.f65), (64, Tryd.f64), (67, Tryd.f67), (81, Tryd.f81), (74, Tryd.f74), (72, Tryd.f72), (71, Tryd.f71), (69, Tryd.f69), (73, Tryd.f73), (78, Tryd.f78), (76, Tryd.f76), (75, Tryd.f75), (79, Tryd.f79), (86, Tryd.f86), (84, Tryd.f84), (83, Tryd.f83), (82, Tryd.f82), (85, Tryd.f85), (90, Tryd.f90), (89, Tryd.f89), (88, Tryd.f88), (96, Tryd.f96)], Tryd.prog.funcs[p.1]? = some p.2
  intro p hp
  simp only [List.mem_cons, List.not_mem_nil, or_false] at hp
  rcases hp with rfl | rfl | rfl | rfl | rfl | rfl | rfl | rfl | rfl | rfl | rfl | rfl | rfl | rfl | rfl | rfl | rfl | rfl | rfl | rfl | rfl | rfl | rfl | rfl | rfl | rfl | rfl | rfl | rfl | rfl | rfl | rfl | rfl | rfl | rfl | rfl | rfl | rfl | rfl | rfl | rfl | rfl | rfl | rfl | rfl | rfl | rfl | rfl | rfl | rfl | rfl | rfl | rfl | rfl | rfl | rfl | rfl | rfl | rfl | rfl | rfl | rfl | rfl | rfl | rfl | rfl | rfl | rfl | rfl | rfl | rfl | rfl | rfl | rfl | rfl | rfl | rfl | rfl | rfl | rfl | rfl
  · exact Tryd.func46
  · exact Tryd.func24
  · exact Tryd.func14
  · exact Tryd.func8
  · exact Tryd.func5
  · exact Tryd.func4
  · exact Tryd.func3
  · exact Tryd.func7
  · exact Tryd.func6
  · exact Tryd.func12
  · exact Tryd.func11
  · exact Tryd.func9
  · exact Tryd.func13
  · exact Tryd.func19
  · exact Tryd.func17
  · exact Tryd.func16
  · exact Tryd.func15
  · exact Tryd.func18
  · exact Tryd.func22
  · exact Tryd.func21
  · exact Tryd.func20
  · exact Tryd.func23
  · exact Tryd.func35
  · exact Tryd.func30
  · exact Tryd.func28
  · exact Tryd.func27
  · exact Tryd.func25
  · exact Tryd.func29
  · exact Tryd.func33
  · exact Tryd.func32
  · exact Tryd.func31
  · exact Tryd.func34
  · exact Tryd.func40
  · exact Tryd.func38
  · exact Tryd.func37
  · exact Tryd.func36
  · exact Tryd.func39
  · exact Tryd.func44
  · exact Tryd.func42
  · exact Tryd.func41
  · exact Tryd.func45
  · exact Tryd.func68
  · exact Tryd.func57
  · exact Tryd.func52
  · exact Tryd.func49
  · exact Tryd.func48
  · exact Tryd.func47
  · exact Tryd.func51
  · exact Tryd.func50
  · exact Tryd.func55
  · exact Tryd.func54
  · exact Tryd.func53
  · exact Tryd.func56
  · exact Tryd.func63
  · exact Tryd.func60
  · exact Tryd.func59
  · exact Tryd.func58
  · exact Tryd.func62
  · exact Tryd.func66
  · exact Tryd.func65
  · exact Tryd.func64
  · exact Tryd.func67
  · exact Tryd.func81
  · exact Tryd.func74
  · exact Tryd.func72
  · exact Tryd.func71
  · exact Tryd.func69
  · exact Tryd.func73
  · exact Tryd.func78
  · exact Tryd.func76
  · exact Tryd.func75
  · exact Tryd.func79
  · exact Tryd.func86
  · exact Tryd.func84
  · exact Tryd.func83
  · exact Tryd.func82
  · exact Tryd.func85
  · exact Tryd.func90
  · exact Tryd.func89
  · exact Tryd.func88
  · exact Tryd.func96
theorem fns [Dfr] : ∀ f fn, E.fn f = some fn → Tryd.prog.funcs[f]? = some fn ∧ (fn.name == "runtime.NumGoroutine") = false ∧ ∀ c, fn.body = some c → dstsOK fn.ntmps c = true := fun f fn h => by
  have hm : (f, fn) ∈ fnT.list := Tree.find_mem h
  have h1 := List.all_eq_true.1 dsts _ hm
  simp only [Bool.and_eq_true, Bool.not_eq_true'] at h1
  exact ⟨funcs _ hm, h1.1, fun c hc => by have h2 := h1.2; rw [hc] at h2; exact h2⟩
theorem foreign70 [Dfr] : Callable Tryd.prog 70 ∧ ∀ x r, frn70 x = some r → Contract Tryd.prog E 70 x r := by
  refine ⟨⟨Tryd.f70, Tryd.func70, by kernel_rfl, by kernel_rfl⟩, fun x r h => ?_⟩
  have h' : (bif roomOk (List.length x) 32 then some x else none) = some r := h
  cases hr : roomOk (List.length x) 32 with
  | false => rw [hr] at h'; cases h'
  | true =>
    rw [hr] at h'
    cases h'
    exact clone_contract tab Tryd.func70 rfl rfl rfl rfl (show E.sig 70 = _ from rfl) (show E.ti 22 = some _ from rfl) rfl rfl (show E.ti 28 = some _ from rfl) (by decide) rfl rfl HEq.rfl HEq.rfl hr rfl
theorem foreign87 [Dfr] : Callable Tryd.prog 87 ∧ ∀ x r, frn87 x = some r → Contract Tryd.prog E 87 x r :=
  ⟨⟨Tryd.f87, Tryd.func87, by kernel_rfl, by kernel_rfl⟩, fun x r h => trim_contract (E := E) (f := 87) rfl (fun s c w h1 h2 h3 => trim_drawn Tryd.lays160 (by kernel_rfl) s c w h1 h2 (ascii_of_all h3)) x r x r HEq.rfl HEq.rfl h⟩
theorem foreigns [Dfr] [DfrOK] : ∀ f g, E.foreign f = some g → Callable Tryd.prog f ∧ ∀ x r, g x = some r → Contract Tryd.prog E f x r := fun f g h => by
  have h' : frT f = some g := h
  unfold frT at h'
  split at h'
  · rename_i hf
    subst hf
    cases h'
    exact foreign87
  split at h'
  · rename_i hf
    subst hf
    cases h'
    exact foreign70
  split at h'
  · rename_i hf
    subst hf
    cases h'
    exact DfrOK.c_plot_Over
  split at h'
  · rename_i hf
    subst hf
    cases h'
    exact DfrOK.c_move_ways
  split at h'
  · rename_i hf
    subst hf
    cases h'
    exact DfrOK.c_step_Put
  cases h'
theorem envOK [Dfr] [DfrOK] : EnvOK Tryd.prog E := ⟨tab, fns, foreigns⟩
end Go.Proofs.YtjogkjgpbeenfaaDoor.Sv
