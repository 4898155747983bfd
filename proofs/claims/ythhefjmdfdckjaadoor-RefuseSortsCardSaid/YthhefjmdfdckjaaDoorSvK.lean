/- The tables of the seat are those of the program: checked by the kernel. Written by a program (emit3.py). -/

import Derived.Test.YthhefjmdfdckjaaDoorSvE
import Derived.Test.YthhefjmdfdckjaaDoorSvT
namespace Go.Proofs.YthhefjmdfdckjaaDoor.Sv
open Go Go.Sv Go.Proofs
set_option linter.unusedVariables false
set_option maxRecDepth 100000
set_option maxHeartbeats 4000000
theorem rows : (tiT.list.all fun p => rowIs Tryd.prog p.1 p.2) = true := by kernel_rfl
theorem eqRows : (tiT.list.all fun p => !p.2.eq || Nat.beq p.1 31) = true := by kernel_rfl
theorem eq31 : (T31).flat = true ∧ ∀ (w : World) (op : BinOp) (x y : Operand) (a b : (T31).den), (eqGuard op 31 x y (.agg (flatVals T31 a).toArray) (.agg (flatVals T31 b).toArray)).run Tryd.prog w = .ok () w ∧ (Op.equalIn 10000 31 (.agg (flatVals T31 a).toArray) (.agg (flatVals T31 b).toArray)).run Tryd.prog w = .ok (eqD T31 a b) w := eq_fit rfl (by kernel_rfl) (by kernel_rfl) (by kernel_rfl) (by kernel_rfl)
theorem types : TypesOK Tryd.prog E := ⟨fun t i h => by
  have hm : (t, i) ∈ tiT.list := Tree.find_mem h
  refine rowIs_ok (List.all_eq_true.1 rows _ hm) fun he u hu => ?_
  have h1 := List.all_eq_true.1 eqRows _ hm
  simp only [he, Bool.not_true, Bool.false_or] at h1
  have h2 : t = 31 := Nat.eq_of_beq_eq_true h1
  subst h2
  cases h.symm.trans (show E.ti 31 = some _ from rfl)
  cases hu
  exact eq31⟩
theorem tab : TabOK Tryd.prog E := ⟨by kernel_rfl, types, elemIs_ok fun t i h => List.all_eq_true.1 rows _ (Tree.find_mem h)⟩
theorem dsts : (fnT.list.all fun p => !(p.2.name == "runtime.NumGoroutine") && (match p.2.body with | some c => dstsOK p.2.ntmps c | none => true)) = true := by kernel_rfl
theorem funcs : ∀ p ∈ fnT.list, Tryd.prog.funcs[p.1]? = some p.2 := by
  show ∀ p ∈ [(22, Tryd.f22), (12, Tryd.f12), (7, Tryd.f7), (5, Tryd.f5), (4, Tryd.f4), (3, Tryd.f3), (6, Tryd.f6), (10, Tryd.f10), (9, Tryd.f9), (8, Tryd.f8), (11, Tryd.f11), (17, Tryd.f17), (15, Tryd.f15), (14, Tryd.f14), (13, Tryd.f13), (16, Tryd.f16), (19, Tryd.f19), (18, Tryd.f18), (21, Tryd.f21), (31, Tryd.f31), (27, Tryd.f27), (25, Tryd.f25), (24, Tryd.f24), (23, Tryd.f23), (26, Tryd.f26), (29, Tryd.f29), (28, Tryd.f28), (30, Tryd.f30), (36, Tryd.f36), (34, Tryd.f34), (33, Tryd.f33), (32, Tryd.f32), (35, Tryd.f35), (39, Tryd.f39), (37, Tryd.f37), (40, Tryd.f40)], Tryd.prog.funcs[p.1]? = some p.2
  intro p hp
  simp only [List.mem_cons, List.not_mem_nil, or_false] at hp
  rcases hp with rfl | rfl | rfl | rfl | rfl | rfl | rfl | rfl | rfl | rfl | rfl | rfl | rfl | rfl | rfl | rfl | rfl | rfl | rfl | rfl | rfl | rfl | rfl | rfl | rfl | rfl | rfl | rfl | rfl | rfl | rfl | rfl | rfl | rfl | rfl | rfl
  · exact Tryd.func22
  · exact Tryd.func12
  · exact Tryd.func7
  · exact Tryd.func5
  · exact Tryd.func4
  · exact Tryd.func3
  · exact Tryd.func6
  · exact Tryd.func10
  · exact Tryd.func9
  · exact Tryd.func8
  · exact Tryd.func11
  · exact Tryd.func17
  · exact Tryd.func15
  · exact Tryd.func14
  · exact Tryd.func13
  · exact Tryd.func16
  · exact Tryd.func19
  · exact Tryd.func18
  · exact Tryd.func21
  · exact Tryd.func31
  · exact Tryd.func27
  · exact Tryd.func25
  · exact Tryd.func24
  · exact Tryd.func23
  · exact Tryd.func26
  · exact Tryd.func29
  · exact Tryd.func28
  · exact Tryd.func30
  · exact Tryd.func36
  · exact Tryd.func34
  · exact Tryd.func33
  · exact Tryd.func32
  · exact Tryd.func35
  · exact Tryd.func39
  · exact Tryd.func37
  · exact Tryd.func40
theorem fns : ∀ f fn, E.fn f = some fn → Tryd.prog.funcs[f]? = some fn ∧ (fn.name == "runtime.NumGoroutine") = false ∧ ∀ c, fn.body = some c → dstsOK fn.ntmps c = true := fun f fn h => by
  have hm : (f, fn) ∈ fnT.list := Tree.find_mem h
  have h1 := List.all_eq_true.1 dsts _ hm
  simp only [Bool.and_eq_true, Bool.not_eq_true'] at h1
  exact ⟨funcs _ hm, h1.1, fun c hc => by have h2 := h1.2; rw [hc] at h2; exact h2⟩
theorem foreign20 : Callable Tryd.prog 20 ∧ ∀ x r, frn20 x = some r → Contract Tryd.prog E 20 x r := by
  refine ⟨⟨Tryd.f20, Tryd.func20, by kernel_rfl, by kernel_rfl⟩, fun x r h => ?_⟩
  have h' : (bif roomOk (List.length x) 32 then some x else none) = some r := h
  cases hr : roomOk (List.length x) 32 with
  | false => rw [hr] at h'; cases h'
  | true =>
    rw [hr] at h'
    cases h'
    exact clone_contract tab Tryd.func20 rfl rfl rfl rfl (show E.sig 20 = _ from rfl) (show E.ti 22 = some _ from rfl) rfl rfl (show E.ti 31 = some _ from rfl) (by decide) rfl rfl HEq.rfl HEq.rfl hr
theorem foreign38 : Callable Tryd.prog 38 ∧ ∀ x r, frn38 x = some r → Contract Tryd.prog E 38 x r :=
  ⟨⟨Tryd.f38, Tryd.func38, by kernel_rfl, by kernel_rfl⟩, fun x r h => trim_contract (E := E) (f := 38) rfl (fun s c w h1 h2 h3 => Any.strings_Trim_laid Tryd.lays160 (by kernel_rfl) s c w h1 h2 (ascii_of_all h3)) x r x r HEq.rfl HEq.rfl h⟩
theorem foreigns : ∀ f g, E.foreign f = some g → Callable Tryd.prog f ∧ ∀ x r, g x = some r → Contract Tryd.prog E f x r := fun f g h => by
  have h' : frT f = some g := h
  unfold frT at h'
  split at h'
  · rename_i hf
    subst hf
    cases h'
    exact foreign38
  split at h'
  · rename_i hf
    subst hf
    cases h'
    exact foreign20
  cases h'
theorem envOK : EnvOK Tryd.prog E := ⟨tab, fns, foreigns⟩
end Go.Proofs.YthhefjmdfdckjaaDoor.Sv
