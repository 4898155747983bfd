/- The row of the law TraceUnits: out of what its function tells (law02_TraceUnits_true) and the evaluator. Written by a program (law3.py). -/
import Derived.Test.YtmpdpboamnpnfaaRows
import Derived.Test.YtmpdpboamnpnfaaZ02
import Derived.Test.YtmpdpboamnpnfaaL02d
import Derived.WalkKit
import Derived.ProofKit
import Derived.OpenShut
import Derived.ShutString
import Derived.ChangeOld
import Derived.Below
import Derived.Carry
import Derived.SizedLaws
namespace Go.Proofs.Ytmpdpboamnpnfaa.traceUnits
open Go.ChangeShapes Go.WideShapes Go.ChangeAt Go.RowKit Go.Sv
set_option linter.unusedVariables false
theorem own : ownKnob Try.prog.godebug = none := by kernel_rfl
theorem laidOut : laidOutB Try.prog = true := by kernel_rfl
theorem ty0 : tyIs Try.prog 9 24 Sv.T24 = true := by kernel_rfl
theorem ty1 : tyIs Try.prog 9 24 Sv.T24 = true := by kernel_rfl
set_option maxRecDepth 100000 in
theorem walk {W : World} {v0 : Value} {y0 : (Sv.T24).den} {v1 : Value} {y1 : (Sv.T24).den} (f0 : (Sv.T24).wf y0) (f1 : (Sv.T24).wf y1)
    (hrel : All2 (fun (p : Nat × PV) v => RP (fun _ => False) Fr.none W p.2 v) (argsOf 0 [.v Sv.T24 [], .v Sv.T24 []] (y0, y1)) [v0, v1]) : Calls Try.prog 10 #[v0, v1] W fun e w' => e = .returned (.bool true) ∧ Below W.heap.size W w' := by
  obtain ⟨k, hk⟩ := ex_run (E := Sv.E) (f := 10) (x := (y0, y1)) (r := true) (Sv.law02_TraceUnits_true y0 y1 f0 f1)
  refine (law_calls Sv.envOK (fun _ => rfl) (k := k) (f := 10) (x := (y0, y1)) (r := true) hk hrel).mono fun e w' ⟨v, he, hb, F, T, hv⟩ => ?_
  have : v = .bool true := hv
  subst this
  exact ⟨he, hb⟩
set_option maxRecDepth 100000 in
theorem lifted (os : Os) (started : os.Started) (H : Type) (enc : TypeId × Value → H) :
    ReturnsInHanded {} Try.checked os 10 .any (Rows.traceUnitsSpec.pre6 enc Try.prog Try.f10 Rows.traceUnitsRow.domain false) (Rows.traceUnitsSpec.post enc Try.prog Try.f10 false true false false) := by
  refine returnsInHanded_of_change_sized (C := Try.checked) own started (by kernel_rfl) Try.func10
    (ChangeSpec.witness6 (enc := enc) (C := Try.checked) false ⟨#[], #[.agg #[.slice none 0 0, .int .i64 0], .agg #[.slice none 0 0, .int .i64 0]], []⟩ 8 (by kernel_rfl) (by kernel_rfl) (by kernel_rfl) (by kernel_rfl)) ?_
  intro W base args ds gs before hval0 hW hcnd hsz0 _
  have hval : ∀ (j : Nat) t v, Try.f10.params[j]? = some t → args[j]? = some v → Value.okWide Try.prog W .any base t v := hval0
  have hW' := hW
  obtain ⟨p, q, hA0, hV, rfl, hfz, hnd⟩ := hW
  have hA : DataW.TrodAll enc Try.prog W 0 (fun _ => true) true Try.f10.params.toList args.toList ds p := hA0
  rw [Try.params10] at hA hval hsz0
  obtain ⟨v0, vs0, d0, ds0, p0, q0, hargs, rfl, rfl, h0, r0⟩ := trodAll_cons hA
  obtain ⟨v1, vs1, d1, ds1, p1, q1, rfl, rfl, rfl, h1, r1⟩ := trodAll_cons r0
  obtain ⟨rfl, rfl, rfl⟩ := trodAll_nil r1
  obtain rfl : args = #[v0, v1] := by cases args; simp_all
  obtain ⟨rfl, rfl⟩ := trodVars_none hV
  have lt0 : ∀ x ∈ p0, x.block < W.heap.size := by obtain ⟨m, hm⟩ := h0; exact DataW.trod_lt m _ _ _ hm
  obtain ⟨y0, e0, f0⟩ := arg_rel (i := 0) ty0 (hval 0 24 v0 rfl rfl) h0 (fits_each hsz0 0 _ _ rfl rfl)
  have lt1 : ∀ x ∈ p1, x.block < W.heap.size := by obtain ⟨m, hm⟩ := h1; exact DataW.trod_lt m _ _ _ hm
  obtain ⟨y1, e1, f1⟩ := arg_rel (i := 1) ty1 (hval 1 24 v1 rfl rfl) h1 (fits_each hsz0 1 _ _ rfl rfl)
  clear hA0 hval0 hsz0
  refine (walk f0 f1 (.cons e0 (.cons e1 .nil))).mono fun e W' ⟨he, bel⟩ => ?_
  subst he
  exact ⟨_, rfl, _, _, _, [], _, [], hW', trodAll_mk1 (shut_bool Try.underlying4 _), (trodAll_cons_mk (Below.trod laidOut (by kernel_rfl) (of_decide_eq_true (by kernel_rfl)) h0 bel lt0) (trodAll_cons_mk (Below.trod laidOut (by kernel_rfl) (of_decide_eq_true (by kernel_rfl)) h1 bel lt1) trodAll_mk0)), rfl, bel.frame _, fun h => by cases h⟩
theorem over : Rows.traceUnitsRow.holds Try.pinned (OpenSpec.ofChange Rows.traceUnitsSpec) :=
  OpenClaim.holds_of_wide 10 Try.f10 rfl rfl rfl rfl rfl rfl rfl ⟨rfl, rfl, rfl, rfl, rfl⟩ rfl rfl rfl rfl rfl (by kernel_rfl) Try.func10 (by kernel_rfl)
    (of_decide_eq_true (by kernel_rfl)) (by unfold Func.isWrapper; first | (rw [if_pos (by decide +kernel)]; kernel_rfl) | (rw [if_neg (by decide +kernel)]; exact ⟨rfl, rfl⟩))
    (fun os started H enc _ => lifted os started H enc)
theorem proved : Rows.TraceUnitsSaid := over
#print axioms proved
end Go.Proofs.Ytmpdpboamnpnfaa.traceUnits
namespace Go.Proofs.Ytmpdpboamnpnfaa
/-- The row, under a short name, for the claim. -/
theorem traceUnits_holds : Rows.TraceUnitsSaid := traceUnits.proved
end Go.Proofs.Ytmpdpboamnpnfaa
