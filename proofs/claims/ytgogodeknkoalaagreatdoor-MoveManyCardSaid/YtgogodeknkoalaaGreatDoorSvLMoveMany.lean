/- The row, and the tied card, of the law MoveMany: out of what its function tells (law12_MoveMany_true) and the evaluator. Written by a program (law3.py). -/
import Derived.Test.YtgogodeknkoalaaGreatDoorRows
import Derived.Test.YtgogodeknkoalaaGreatDoorZA
import Derived.Test.YtgogodeknkoalaaGreatDoorL12
import Derived.Test.YtgogodeknkoalaaGreatDoorSvJ
import Derived.Test.YtgogodeknkoalaaGreatDoorCards
import Derived.Test.YtgogodeknkoalaaGreatDoorTie
import Derived.WalkKit
import Derived.ProofKit
import Derived.OpenShut
import Derived.ShutString
import Derived.ChangeOld
import Derived.Below
import Derived.Carry
import Derived.SizedLaws
import Derived.LaidMore
import Derived.Lay
import Derived.SevenTiedAt
import Derived.Stop.Joined
namespace Go.Proofs.YtgogodeknkoalaaGreatDoor.moveMany
open Go.ChangeShapes Go.WideShapes Go.ChangeAt Go.RowKit Go.Sv
set_option linter.unusedVariables false
theorem own : ownKnob Tryz.prog.godebug = none := by kernel_rfl
theorem laidOut : laidOutB Tryz.prog = true := by kernel_rfl
theorem ty0 : tyIs Tryz.prog 9 22 (Ty.slice 40 Sv.T40) = true := by kernel_rfl
set_option maxRecDepth 100000 in
theorem walk {W : World} (hL : laidMetH Tryz.prog laidL W) {v0 : Value} {y0 : ((Ty.slice 40 Sv.T40)).den} (f0 : ((Ty.slice 40 Sv.T40)).wf y0) 
    (hrel : All2 (fun (p : Nat × PV) v => RP (fun _ => False) Fr.none W p.2 v) (argsOf 0 [.v (Ty.slice 40 Sv.T40) []] y0) [v0]) : Calls Tryz.prog 7 #[v0] W fun e w' => e = .returned (.bool true) ∧ Below W.heap.size W w' := by
  obtain ⟨k, hk⟩ := ex_run (E := Sv.E) (f := 7) (x := y0) (r := true) (Sv.law12_MoveMany_true y0 f0)
  refine (law_calls_g Sv.envOK (globOK hL) (k := k) (f := 7) (x := y0) (r := true) hk hrel).mono fun e w' ⟨v, he, hb, F, T, hv⟩ => ?_
  have : v = .bool true := hv
  subst this
  exact ⟨he, hb⟩
set_option maxRecDepth 100000 in
theorem lifted (os : Os) (started : os.Started) (H : Type) (enc : TypeId × Value → H) :
    ReturnsInHanded {} Tryz.checked os 7 .any (fun w args => (Rows.moveManySpec.pre enc Tryz.prog Tryz.f7 Rows.moveManyRow.domain false w args ∧ laidMetH Tryz.prog laidL w) ∧ sizedMet enc Tryz.prog Tryz.f7 (OpenSpec.ofChange Rows.moveManySpec) false w args) (Rows.moveManySpec.post enc Tryz.prog Tryz.f7 false true false false) := by
  refine returnsInHanded_of_change_and (C := Tryz.checked) (X := fun w _ => laidMetH Tryz.prog laidL w) (fun _ _ _ hh h => h.of_heap hh) own started (by kernel_rfl) Tryz.func7
    (ChangeSpec.witness_shaped (enc := enc) (C := Tryz.checked) (os := os) (X := fun w _ => laidMetH Tryz.prog laidL w) false (World.laidAll Tryz.prog os laidL) #[.slice none 0 0] 8 (World.laidAll_os _ _ _)
      (World.shaped_of_ZipB (by kernel_rfl) (by kernel_rfl)) (by kernel_rfl) (by kernel_rfl) (by kernel_rfl)
      (by rw [MakeChecks.laidMetH_plain _ _ _ (by kernel_rfl)]; exact laidMet_laidAll _ (by kernel_rfl) (by kernel_rfl))) ?_
  intro W base args ds gs before hval0 hW hcnd hsz0 hL _
  have hval : ∀ (j : Nat) t v, Tryz.f7.params[j]? = some t → args[j]? = some v → Value.okWide Tryz.prog W .any base t v := hval0
  have hW' := hW
  obtain ⟨p, q, hA0, hV, rfl, hfz, hnd⟩ := hW
  have hA : DataW.TrodAll enc Tryz.prog W 0 (fun _ => true) true Tryz.f7.params.toList args.toList ds p := hA0
  rw [Tryz.params7] at hA hval hsz0
  obtain ⟨v0, vs0, d0, ds0, p0, q0, hargs, rfl, rfl, h0, r0⟩ := trodAll_cons hA
  obtain ⟨rfl, rfl, rfl⟩ := trodAll_nil r0
  obtain rfl : args = #[v0] := by cases args; simp_all
  obtain ⟨rfl, rfl⟩ := trodVars_none hV
  have lt0 : ∀ x ∈ p0, x.block < W.heap.size := by obtain ⟨m, hm⟩ := h0; exact DataW.trod_lt m _ _ _ hm
  obtain ⟨y0, e0, f0⟩ := arg_rel (i := 0) ty0 (hval 0 22 v0 rfl rfl) h0 (fits_each hsz0 0 _ _ rfl rfl)
  clear hA0 hval0 hsz0
  refine (walk hL f0 (.cons e0 .nil)).mono fun e W' ⟨he, bel⟩ => ?_
  subst he
  exact ⟨_, rfl, _, _, _, [], _, [], hW', trodAll_mk1 (shut_bool Tryz.underlying4 _), (trodAll_cons_mk (Below.trod laidOut (by kernel_rfl) (of_decide_eq_true (by kernel_rfl)) h0 bel lt0) trodAll_mk0), rfl, bel.frame _, fun h => by cases h⟩
theorem over : Rows.moveManyRow.holds Tryz.pinned (OpenSpec.ofChange Rows.moveManySpec) :=
  OpenClaim.holds_of_wide 7 Tryz.f7 rfl rfl rfl rfl rfl rfl rfl ⟨rfl, rfl, rfl, rfl, rfl⟩ rfl rfl rfl rfl rfl (by kernel_rfl) Tryz.func7 (by kernel_rfl)
    (of_decide_eq_true (by kernel_rfl)) (by unfold Func.isWrapper; first | (rw [if_pos (by decide +kernel)]; kernel_rfl) | (rw [if_neg (by decide +kernel)]; exact ⟨rfl, rfl⟩))
    (fun os started H enc _ => lifted os started H enc)
theorem proved : Rows.MoveManyCardSaid :=
  Claim7.holds_tied_plain_at .later [] [.data, .data, .data, .data, .widerDeep, .pinned] true (true, "a9fe90cd750e5c27d4ec7cd9876feb355a9ff02238b8b92829c80f31afd03d5a") false over (fun _ h => by cases h) (by kernel_rfl) (fun _ h => by cases h) moveMany_row_tie rfl ⟨rfl, rfl⟩ (by kernel_rfl) rfl
    (fun f fn hf hfn => by
      obtain rfl : f = 7 := Option.some.inj ((show Tryz.prog.funcNamed "redress/redresslaw12.MoveMany" = some 7 by kernel_rfl).symm.trans hf) |>.symm
      obtain rfl : fn = Tryz.f7 := (Option.some.inj (Tryz.func7.symm.trans hfn)).symm
      exact ⟨by kernel_rfl, fun j t ht => by
        rw [Tryz.params7] at ht
        have hm : t ∈ [22] := by simpa using Array.mem_of_getElem? ht
        have hall : ([22].all fun u => !Tryz.prog.wantsStandIn u) = true := by kernel_rfl
        exact (show Tryz.prog.wantsStandIn t = false by simpa using List.all_eq_true.1 hall t hm)⟩)
    (by kernel_rfl)
#print axioms proved
end Go.Proofs.YtgogodeknkoalaaGreatDoor.moveMany
namespace Go.Proofs.YtgogodeknkoalaaGreatDoor
/-- The card, under a short name, for the claim. -/
theorem moveMany_holds : Rows.MoveManyCardSaid := moveMany.proved
end Go.Proofs.YtgogodeknkoalaaGreatDoor
