/- The row of the law TraceThen: out of what its function tells (law02_TraceThen_true) and the evaluator. Written by a program (law3.py). -/
import Derived.Test.YtmpdpboamnpnfaaRows
import Derived.Test.YtmpdpboamnpnfaaZ02
import Derived.Test.YtmpdpboamnpnfaaL02d
import Derived.WalkKit
import Derived.ProofKit
import Derived.OpenShut
import Derived.ShutString
import Derived.ChangeOld
import Derived.Below
import Derived.Carry
import Derived.SizedLaws
namespace Go.Proofs.Ytmpdpboamnpnfaa.traceThen
open Go.ChangeShapes Go.WideShapes Go.ChangeAt Go.RowKit Go.Sv
set_option linter.unusedVariables false
theorem own : ownKnob Try.prog.godebug = none := by kernel_rfl
theorem laidOut : laidOutB Try.prog = true := by kernel_rfl
theorem ty0 : tyIs Try.prog 9 24 Sv.T24 = true := by kernel_rfl
theorem ty1 : tyIs Try.prog 9 24 Sv.T24 = true := by kernel_rfl
theorem ty2 : tyIs Try.prog 9 24 Sv.T24 = true := by kernel_rfl
set_option maxRecDepth 100000 in
theorem walk {W : World} {v0 : Value} {y0 : (Sv.T24).den} {v1 : Value} {y1 : (Sv.T24).den} {v2 : Value} {y2 : (Sv.T24).den} (f0 : (Sv.T24).wf y0) (f1 : (Sv.T24).wf y1) (f2 : (Sv.T24).wf y2)
    (hrel : All2 (fun (p : Nat × PV) v => RP (fun _ => False) Fr.none W p.2 v) (argsOf 0 [.v Sv.T24 [], .v Sv.T24 [], .v Sv.T24 []] (y0, y1, y2)) [v0, v1, v2]) : Calls Try.prog 5 #[v0, v1, v2] W fun e w' => e = .returned (.bool true) ∧ Below W.heap.size W w' := by
  obtain ⟨k, hk⟩ := ex_run (E := Sv.E) (f := 5) (x := (y0, y1, y2)) (r := true) (Sv.law02_TraceThen_true y0 y1 y2 f0 f1 f2)
  refine (law_calls Sv.envOK (fun _ => rfl) (k := k) (f := 5) (x := (y0, y1, y2)) (r := true) hk hrel).mono fun e w' ⟨v, he, hb, F, T, hv⟩ => ?_
  have : v = .bool true := hv
  subst this
  exact ⟨he, hb⟩
set_option maxRecDepth 100000 in
theorem lifted (os : Os) (started : os.Started) (H : Type) (enc : TypeId × Value → H) :
    ReturnsInHanded {} Try.checked os 5 .any (Rows.traceThenSpec.pre6 enc Try.prog Try.f5 Rows.traceThenRow.domain false) (Rows.traceThenSpec.post enc Try.prog Try.f5 false true false false) := by
  refine returnsInHanded_of_change_sized (C := Try.checked) own started (by kernel_rfl) Try.func5
    (ChangeSpec.witness6 (enc := enc) (C := Try.checked) false ⟨#[], #[.agg #[.slice none 0 0, .int .i64 0], .agg #[.slice none 0 0, .int .i64 0], .agg #[.slice none 0 0, .int .i64 0]], []⟩ 8 (by kernel_rfl) (by kernel_rfl) (by kernel_rfl) (by kernel_rfl)) ?_
  intro W base args ds gs before hval0 hW hcnd hsz0 _
  have hval : ∀ (j : Nat) t v, Try.f5.params[j]? = some t → args[j]? = some v → Value.okWide Try.prog W .any base t v := hval0
  have hW' := hW
  obtain ⟨p, q, hA0, hV, rfl, hfz, hnd⟩ := hW
  have hA : DataW.TrodAll enc Try.prog W 0 (fun _ => true) true Try.f5.params.toList args.toList ds p := hA0
  rw [Try.params5] at hA hval hsz0
  obtain ⟨v0, vs0, d0, ds0, p0, q0, hargs, rfl, rfl, h0, r0⟩ := trodAll_cons hA
  obtain ⟨v1, vs1, d1, ds1, p1, q1, rfl, rfl, rfl, h1, r1⟩ := trodAll_cons r0
  obtain ⟨v2, vs2, d2, ds2, p2, q2, rfl, rfl, rfl, h2, r2⟩ := trodAll_cons r1
  obtain ⟨rfl, rfl, rfl⟩ := trodAll_nil r2
  obtain rfl : args = #[v0, v1, v2] := by cases args; simp_all
  obtain ⟨rfl, rfl⟩ := trodVars_none hV
  have lt0 : ∀ x ∈ p0, x.block < W.heap.size := by obtain ⟨m, hm⟩ := h0; exact DataW.trod_lt m _ _ _ hm
  obtain ⟨y0, e0, f0⟩ := arg_rel (i := 0) ty0 (hval 0 24 v0 rfl rfl) h0 (fits_each hsz0 0 _ _ rfl rfl)
  have lt1 : ∀ x ∈ p1, x.block < W.heap.size := by obtain ⟨m, hm⟩ := h1; exact DataW.trod_lt m _ _ _ hm
  obtain ⟨y1, e1, f1⟩ := arg_rel (i := 1) ty1 (hval 1 24 v1 rfl rfl) h1 (fits_each hsz0 1 _ _ rfl rfl)
  have lt2 : ∀ x ∈ p2, x.block < W.heap.size := by obtain ⟨m, hm⟩ := h2; exact DataW.trod_lt m _ _ _ hm
  obtain ⟨y2, e2, f2⟩ := arg_rel (i := 2) ty2 (hval 2 24 v2 rfl rfl) h2 (fits_each hsz0 2 _ _ rfl rfl)
  clear hA0 hval0 hsz0
  refine (walk f0 f1 f2 (.cons e0 (.cons e1 (.cons e2 .nil)))).mono fun e W' ⟨he, bel⟩ => ?_
  subst he
  exact ⟨_, rfl, _, _, _, [], _, [], hW', trodAll_mk1 (shut_bool Try.underlying4 _), (trodAll_cons_mk (Below.trod laidOut (by kernel_rfl) (of_decide_eq_true (by kernel_rfl)) h0 bel lt0) (trodAll_cons_mk (Below.trod laidOut (by kernel_rfl) (of_decide_eq_true (by kernel_rfl)) h1 bel lt1) (trodAll_cons_mk (Below.trod laidOut (by kernel_rfl) (of_decide_eq_true (by kernel_rfl)) h2 bel lt2) trodAll_mk0))), rfl, bel.frame _, fun h => by cases h⟩
theorem over : Rows.traceThenRow.holds Try.pinned (OpenSpec.ofChange Rows.traceThenSpec) :=
  OpenClaim.holds_of_wide 5 Try.f5 rfl rfl rfl rfl rfl rfl rfl ⟨rfl, rfl, rfl, rfl, rfl⟩ rfl rfl rfl rfl rfl (by kernel_rfl) Try.func5 (by kernel_rfl)
    (of_decide_eq_true (by kernel_rfl)) (by unfold Func.isWrapper; first | (rw [if_pos (by decide +kernel)]; kernel_rfl) | (rw [if_neg (by decide +kernel)]; exact ⟨rfl, rfl⟩))
    (fun os started H enc _ => lifted os started H enc)
theorem proved : Rows.TraceThenSaid := over
#print axioms proved
end Go.Proofs.Ytmpdpboamnpnfaa.traceThen
namespace Go.Proofs.Ytmpdpboamnpnfaa
/-- The row, under a short name, for the claim. -/
theorem traceThen_holds : Rows.TraceThenSaid := traceThen.proved
end Go.Proofs.Ytmpdpboamnpnfaa
