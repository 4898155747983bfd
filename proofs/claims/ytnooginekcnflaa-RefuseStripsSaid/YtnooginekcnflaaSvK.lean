/- The tables of the seat are those of the program: checked by the kernel. Written by a program (emit3.py). -/

import Derived.Test.YtnooginekcnflaaSvE
namespace Go.Proofs.Ytnooginekcnflaa.Sv
open Go Go.Sv Go.Proofs
set_option linter.unusedVariables false
set_option maxRecDepth 100000
set_option maxHeartbeats 4000000
theorem rows : (tiT.list.all fun p => rowIs Try.prog p.1 p.2) = true := by kernel_rfl
theorem eqRows : (tiT.list.all fun p => !p.2.eq || Nat.beq p.1 38) = true := by kernel_rfl
theorem eq38 : (T38).flat = true ∧ ∀ (w : World) (op : BinOp) (x y : Operand) (a b : (T38).den), (eqGuard op 38 x y (.agg (flatVals T38 a).toArray) (.agg (flatVals T38 b).toArray)).run Try.prog w = .ok () w ∧ (Op.equalIn 10000 38 (.agg (flatVals T38 a).toArray) (.agg (flatVals T38 b).toArray)).run Try.prog w = .ok (eqD T38 a b) w := eq_fit rfl (by kernel_rfl) (by kernel_rfl) (by kernel_rfl) (by kernel_rfl)
theorem types : TypesOK Try.prog E := ⟨fun t i h => by
  have hm : (t, i) ∈ tiT.list := Tree.find_mem h
  refine rowIs_ok (List.all_eq_true.1 rows _ hm) fun he u hu => ?_
  have h1 := List.all_eq_true.1 eqRows _ hm
  simp only [he, Bool.not_true, Bool.false_or] at h1
  have h2 : t = 38 := Nat.eq_of_beq_eq_true h1
  subst h2
  cases h.symm.trans (show E.ti 38 = some _ from rfl)
  cases hu
  exact eq38⟩
theorem tab : TabOK Try.prog E := ⟨by kernel_rfl, types, elemIs_ok fun t i h => List.all_eq_true.1 rows _ (Tree.find_mem h)⟩
theorem dsts : (fnT.list.all fun p => !(p.2.name == "runtime.NumGoroutine") && (match p.2.body with | some c => dstsOK p.2.ntmps c | none => true)) = true := by kernel_rfl
theorem funcs : ∀ p ∈ fnT.list, Try.prog.funcs[p.1]? = some p.2 := by
  show ∀ p ∈ [(16, Try.f16), (9, Try.f9), (6, Try.f6), (4, Try.f4), (3, Try.f3), (5, Try.f5), (8, Try.f8), (7, Try.f7), (13, Try.f13), (11, Try.f11), (10, Try.f10), (12, Try.f12), (15, Try.f15), (14, Try.f14), (24, Try.f24), (20, Try.f20), (18, Try.f18), (17, Try.f17), (19, Try.f19), (22, Try.f22), (21, Try.f21), (27, Try.f27), (26, Try.f26), (25, Try.f25), (29, Try.f29), (28, Try.f28)], Try.prog.funcs[p.1]? = some p.2
  intro p hp
  simp only [List.mem_cons, List.not_mem_nil, or_false] at hp
  rcases hp with rfl | rfl | rfl | rfl | rfl | rfl | rfl | rfl | rfl | rfl | rfl | rfl | rfl | rfl | rfl | rfl | rfl | rfl | rfl | rfl | rfl | rfl | rfl | rfl | rfl | rfl
  · exact Try.func16
  · exact Try.func9
  · exact Try.func6
  · exact Try.func4
  · exact Try.func3
  · exact Try.func5
  · exact Try.func8
  · exact Try.func7
  · exact Try.func13
  · exact Try.func11
  · exact Try.func10
  · exact Try.func12
  · exact Try.func15
  · exact Try.func14
  · exact Try.func24
  · exact Try.func20
  · exact Try.func18
  · exact Try.func17
  · exact Try.func19
  · exact Try.func22
  · exact Try.func21
  · exact Try.func27
  · exact Try.func26
  · exact Try.func25
  · exact Try.func29
  · exact Try.func28
theorem fns : ∀ f fn, E.fn f = some fn → Try.prog.funcs[f]? = some fn ∧ (fn.name == "runtime.NumGoroutine") = false ∧ ∀ c, fn.body = some c → dstsOK fn.ntmps c = true := fun f fn h => by
  have hm : (f, fn) ∈ fnT.list := Tree.find_mem h
  have h1 := List.all_eq_true.1 dsts _ hm
  simp only [Bool.and_eq_true, Bool.not_eq_true'] at h1
  exact ⟨funcs _ hm, h1.1, fun c hc => by have h2 := h1.2; rw [hc] at h2; exact h2⟩
theorem foreign23 : Callable Try.prog 23 ∧ ∀ x r, frn23 x = some r → Contract Try.prog E 23 x r := by
  refine ⟨⟨Try.f23, Try.func23, by kernel_rfl, by kernel_rfl⟩, fun x r h => ?_⟩
  have h' : (bif roomOk (List.length x) 32 then some x else none) = some r := h
  cases hr : roomOk (List.length x) 32 with
  | false => rw [hr] at h'; cases h'
  | true =>
    rw [hr] at h'
    cases h'
    exact clone_contract tab Try.func23 rfl rfl rfl rfl (show E.sig 23 = _ from rfl) (show E.ti 22 = some _ from rfl) rfl rfl (show E.ti 38 = some _ from rfl) (by decide) rfl rfl HEq.rfl HEq.rfl hr
theorem foreigns : ∀ f g, E.foreign f = some g → Callable Try.prog f ∧ ∀ x r, g x = some r → Contract Try.prog E f x r := fun f g h => by
  have h' : frT f = some g := h
  unfold frT at h'
  split at h'
  · rename_i hf
    subst hf
    cases h'
    exact foreign23
  cases h'
theorem envOK : EnvOK Try.prog E := ⟨tab, fns, foreigns⟩
end Go.Proofs.Ytnooginekcnflaa.Sv
