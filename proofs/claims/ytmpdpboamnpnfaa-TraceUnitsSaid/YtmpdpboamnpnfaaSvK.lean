/- The tables of the seat are those of the program: checked by the kernel. Written by a program (emit3.py). -/

import Derived.Test.YtmpdpboamnpnfaaSvE
import Derived.Test.YtmpdpboamnpnfaaSvS
import Derived.Test.YtmpdpboamnpnfaaEv8
namespace Go.Proofs.Ytmpdpboamnpnfaa.Sv
open Go Go.Sv Go.Proofs
set_option linter.unusedVariables false
set_option maxRecDepth 100000
set_option maxHeartbeats 4000000
class DfrOK [Dfr] : Prop where
  c_trace_Mix : Callable Try.prog 27 ∧ ∀ x r, frn27 x = some r → Contract Try.prog E 27 x r
/-- A contract hangs not on what is asked of others. -/
theorem contract_any {d d' : Dfr} {f : Nat} {x : Tup (sg f).args} {r : Tup (sg f).res} (h : Contract Try.prog (@E d) f x r) : Contract Try.prog (@E d') f x r := fun w F0 G A vs hA => h w F0 G A vs ⟨hA.rel, hA.bx, hA.tgm, hA.tgi, hA.f0, hA.glob⟩
theorem rows [Dfr] : (tiT.list.all fun p => rowIs Try.prog p.1 p.2) = true := by kernel_rfl
theorem eqRows [Dfr] : (tiT.list.all fun p => !p.2.eq || false) = true := by kernel_rfl
theorem types [Dfr] : TypesOK Try.prog E := ⟨fun t i h => by
  have hm : (t, i) ∈ tiT.list := Tree.find_mem h
  refine rowIs_ok (List.all_eq_true.1 rows _ hm) fun he u hu => ?_
  have h1 := List.all_eq_true.1 eqRows _ hm
  simp only [he, Bool.not_true, Bool.false_or] at h1
  cases h1⟩
theorem rowsRun38 [Dfr] : RowsRun Try.prog E 38 false 30 T24 := sortRuns_agg (ρ := Try.sort38_ren) Try.sort38 rfl Try.isAgg30 Try.sizeOf30 ⟨Try.f38, Try.func38, by kernel_rfl, by kernel_rfl⟩
theorem rowsRun39 [Dfr] : RowsRun Try.prog E 39 true 30 T24 := compactRuns_agg (T := 33) (e := 30) (B := 4) (I := 3) (FT := 61) (U := 0) ⟨by kernel_rfl, Try.underlying0, Try.underlying3, Try.underlying4, Try.underlying33, ⟨_, _, Try.underlying61⟩, Try.isAgg0, Try.isAgg3, Try.isAgg4, Try.isAgg33, Try.isAgg61, Try.sizeOf3, Try.sizeOf4, Try.sizeOf33, Try.sizeOf61⟩ ⟨Try.f39.name, by decide, Try.func39.trans (congrArg some (by kernel_rfl))⟩ rfl Try.isAgg30 Try.sizeOf30 _ Try.zeroValue30 rfl (by decide) ⟨Try.f39, Try.func39, by kernel_rfl, by kernel_rfl⟩
theorem rowsRun49 [Dfr] : RowsRun Try.prog E 49 false 22 ((.slice 9 .str)) := sortRuns_one (ρ := Try.sort49_ren) Try.sort49 rfl ⟨Try.f49, Try.func49, by kernel_rfl, by kernel_rfl⟩
theorem rowsRun51 [Dfr] : RowsRun Try.prog E 51 true 22 ((.slice 9 .str)) := compactRuns_one (T := 47) (e := 22) (B := 4) (I := 3) (FT := 50) (U := 0) ⟨by kernel_rfl, Try.underlying0, Try.underlying3, Try.underlying4, Try.underlying47, ⟨_, _, Try.underlying50⟩, Try.isAgg0, Try.isAgg3, Try.isAgg4, Try.isAgg47, Try.isAgg50, Try.sizeOf3, Try.sizeOf4, Try.sizeOf47, Try.sizeOf50⟩ ⟨Try.f51.name, by decide, Try.func51.trans (congrArg some (by kernel_rfl))⟩ rfl Try.isAgg22 Try.sizeOf22 _ Try.zeroValue22 rfl (by decide) ⟨Try.f51, Try.func51, by kernel_rfl, by kernel_rfl⟩
theorem rowsOK [Dfr] : RowsOK Try.prog E := fun f b e u h => by
  have h' : rowsT f = some (b, e, u) := h
  unfold rowsT at h'
  split at h'
  · rename_i hf
    subst hf
    cases h'
    exact rowsRun38
  split at h'
  · rename_i hf
    subst hf
    cases h'
    exact rowsRun39
  split at h'
  · rename_i hf
    subst hf
    cases h'
    exact rowsRun49
  split at h'
  · rename_i hf
    subst hf
    cases h'
    exact rowsRun51
  cases h'
theorem revsOK [Dfr] : RevsOK Try.prog E := fun f e u h => by
  have h' : revsT f = some (e, u) := h
  unfold revsT at h'
  cases h'
theorem tab [Dfr] : TabOK Try.prog E := ⟨by kernel_rfl, types, elemIs_ok fun t i h => List.all_eq_true.1 rows _ (Tree.find_mem h), rowsOK, pins_none fun _ _ _ _ _ _ => rfl, revsOK⟩
theorem dsts [Dfr] : (fnT.list.all fun p => !(p.2.name == "runtime.NumGoroutine") && (match p.2.body with | some c => dstsOK p.2.ntmps c | none => true)) = true := by kernel_rfl
theorem funcs [Dfr] : ∀ p ∈ fnT.list, Try.prog.funcs[p.1]? = some p.2 := by
  show ∀ p ∈ [(33, Try.f33), (17, Try.f17), (10, Try.f10), (6, Try.f6), (4, Try.f4), (3, Try.f3), (5, Try.f5), (8, Try.f8), (7, Try.f7), (9, Try.f9), (14, Try.f14), (12, Try.f12), (11, Try.f11), (13, Try.f13), (16, Try.f16), (15, Try.f15), (25, Try.f25), (21, Try.f21), (19, Try.f19), (18, Try.f18), (20, Try.f20), (23, Try.f23), (22, Try.f22), (24, Try.f24), (30, Try.f30), (28, Try.f28), (26, Try.f26), (29, Try.f29), (32, Try.f32), (31, Try.f31), (55, Try.f55), (44, Try.f44), (40, Try.f40), (35, Try.f35), (34, Try.f34), (36, Try.f36), (42, Try.f42), (41, Try.f41), (43, Try.f43), (52, Try.f52), (47, Try.f47), (46, Try.f46), (50, Try.f50), (54, Try.f54), (53, Try.f53), (66, Try.f66), (59, Try.f59), (57, Try.f57), (56, Try.f56), (58, Try.f58), (63, Try.f63), (62, Try.f62), (64, Try.f64), (70, Try.f70), (68, Try.f68), (67, Try.f67), (69, Try.f69), (90, Try.f90), (71, Try.f71)], Try.prog.funcs[p.1]? = some p.2
  intro p hp
  simp only [List.mem_cons, List.not_mem_nil, or_false] at hp
  rcases hp with rfl | rfl | rfl | rfl | rfl | rfl | rfl | rfl | rfl | rfl | rfl | rfl | rfl | rfl | rfl | rfl | rfl | rfl | rfl | rfl | rfl | rfl | rfl | rfl | rfl | rfl | rfl | rfl | rfl | rfl | rfl | rfl | rfl | rfl | rfl | rfl | rfl | rfl | rfl | rfl | rfl | rfl | rfl | rfl | rfl | rfl | rfl | rfl | rfl | rfl | rfl | rfl | rfl | rfl | rfl | rfl | rfl | rfl | rfl
  · exact Try.func33
  · exact Try.func17
  · exact Try.func10
  · exact Try.func6
  · exact Try.func4
  · exact Try.func3
  · exact Try.func5
  · exact Try.func8
  · exact Try.func7
  · exact Try.func9
  · exact Try.func14
  · exact Try.func12
  · exact Try.func11
  · exact Try.func13
  · exact Try.func16
  · exact Try.func15
  · exact Try.func25
  · exact Try.func21
  · exact Try.func19
  · exact Try.func18
  · exact Try.func20
  · exact Try.func23
  · exact Try.func22
  · exact Try.func24
  · exact Try.func30
  · exact Try.func28
  · exact Try.func26
  · exact Try.func29
  · exact Try.func32
  · exact Try.func31
  · exact Try.func55
  · exact Try.func44
  · exact Try.func40
  · exact Try.func35
  · exact Try.func34
  · exact Try.func36
  · exact Try.func42
  · exact Try.func41
  · exact Try.func43
  · exact Try.func52
  · exact Try.func47
  · exact Try.func46
  · exact Try.func50
  · exact Try.func54
  · exact Try.func53
  · exact Try.func66
  · exact Try.func59
  · exact Try.func57
  · exact Try.func56
  · exact Try.func58
  · exact Try.func63
  · exact Try.func62
  · exact Try.func64
  · exact Try.func70
  · exact Try.func68
  · exact Try.func67
  · exact Try.func69
  · exact Try.func90
  · exact Try.func71
theorem fns [Dfr] : ∀ f fn, E.fn f = some fn → Try.prog.funcs[f]? = some fn ∧ (fn.name == "runtime.NumGoroutine") = false ∧ ∀ c, fn.body = some c → dstsOK fn.ntmps c = true := fun f fn h => by
  have hm : (f, fn) ∈ fnT.list := Tree.find_mem h
  have h1 := List.all_eq_true.1 dsts _ hm
  simp only [Bool.and_eq_true, Bool.not_eq_true'] at h1
  exact ⟨funcs _ hm, h1.1, fun c hc => by have h2 := h1.2; rw [hc] at h2; exact h2⟩
theorem foreign37 [Dfr] : Callable Try.prog 37 ∧ ∀ x r, frn37 x = some r → Contract Try.prog E 37 x r := by
  refine ⟨⟨Try.f37, Try.func37, by kernel_rfl, by kernel_rfl⟩, fun x r h => ?_⟩
  have h' : (bif roomOk (List.length x) 32 then some x else none) = some r := h
  cases hr : roomOk (List.length x) 32 with
  | false => rw [hr] at h'; cases h'
  | true =>
    rw [hr] at h'
    cases h'
    exact clone_contract tab Try.func37 rfl rfl rfl rfl (show E.sig 37 = _ from rfl) (show E.ti 33 = some _ from rfl) rfl rfl (show E.ti 30 = some _ from rfl) (by decide) rfl rfl HEq.rfl HEq.rfl hr
theorem foreign45 [Dfr] : Callable Try.prog 45 ∧ ∀ x r, frn45 x = some r → Contract Try.prog E 45 x r := by
  refine ⟨⟨Try.f45, Try.func45, by kernel_rfl, by kernel_rfl⟩, fun x r h => ?_⟩
  have h' : (bif roomOk (List.length x) 16 then some x else none) = some r := h
  cases hr : roomOk (List.length x) 16 with
  | false => rw [hr] at h'; cases h'
  | true =>
    rw [hr] at h'
    cases h'
    exact clone_contract tab Try.func45 rfl rfl rfl rfl (show E.sig 45 = _ from rfl) (show E.ti 22 = some _ from rfl) rfl rfl (show E.ti 9 = some _ from rfl) (by decide) rfl rfl HEq.rfl HEq.rfl hr
theorem foreigns [Dfr] [DfrOK] : ∀ f g, E.foreign f = some g → Callable Try.prog f ∧ ∀ x r, g x = some r → Contract Try.prog E f x r := fun f g h => by
  have h' : frT f = some g := h
  unfold frT at h'
  split at h'
  · rename_i hf
    subst hf
    cases h'
    exact foreign45
  split at h'
  · rename_i hf
    subst hf
    cases h'
    exact foreign37
  split at h'
  · rename_i hf
    subst hf
    cases h'
    exact DfrOK.c_trace_Mix
  cases h'
theorem envOK [Dfr] [DfrOK] : EnvOK Try.prog E := ⟨tab, fns, foreigns⟩
end Go.Proofs.Ytmpdpboamnpnfaa.Sv
