/- The row, and the tied card, of the law RefuseMeans: out of what its function tells (law08_RefuseMeans_true) and the evaluator. Written by a program (law3.py). -/
import Derived.Test.YthhefjmdfdckjaaGreatDoorRows
import Derived.Test.YthhefjmdfdckjaaGreatDoorZ02
import Derived.Test.YthhefjmdfdckjaaGreatDoorL08t
import Derived.Test.YthhefjmdfdckjaaGreatDoorSvJ
import Derived.Test.YthhefjmdfdckjaaGreatDoorCards
import Derived.Test.YthhefjmdfdckjaaGreatDoorTie
import Derived.WalkKit
import Derived.ProofKit
import Derived.OpenShut
import Derived.ShutString
import Derived.ChangeOld
import Derived.Below
import Derived.Carry
import Derived.SizedLaws
import Derived.LaidMore
import Derived.Lay
import Derived.SevenTiedAt
import Derived.Stop.Joined
import Derived.Deep.DeepHandedRow
import Derived.Deep.Slices
namespace Go.Proofs.YthhefjmdfdckjaaGreatDoor.refuseMeans
open Go.ChangeShapes Go.WideShapes Go.ChangeAt Go.RowKit Go.Sv
set_option linter.unusedVariables false
theorem own : ownKnob Tryz.prog.godebug = none := by kernel_rfl
theorem laidOut : laidOutB Tryz.prog = true := by kernel_rfl
theorem ty0 : tyIs Tryz.prog 9 22 (Ty.slice 39 Sv.T39) = true := by kernel_rfl
theorem ty1 : tyIs Tryz.prog 9 9 Ty.str = true := by kernel_rfl
theorem one_le {H : Type} (d : DataW H) : 1 ≤ Rows.uptoBulk d := by
  cases d with
  | lit l => cases l <;> simp [Rows.uptoBulk]
  | nil => simp [Rows.uptoBulk]
  | ptr d => simp [Rows.uptoBulk]
  | slice elems spare => simp [Rows.uptoBulk]
  | agg parts => simp [Rows.uptoBulk]
  | iface t d => simp [Rows.uptoBulk]
  | map entries => simp [Rows.uptoBulk]
  | held h => simp [Rows.uptoBulk]
theorem length_le {H : Type} (l : List (DataW H)) : l.length ≤ Rows.uptoBulkAll l := by
  induction l with
  | nil => simp [Rows.uptoBulkAll]
  | cons x r ih => have := one_le x; simp only [Rows.uptoBulkAll, List.length_cons]; omega
theorem arg_len {P : Program} {H : Type} {enc : TypeId × Value → H} {F : Nat → Prop} {W : World} {b : Nat} {sp : Nat → Bool} {hd : Bool} {e : Nat} {t : Sv.Ty} {xs : List t.den} {v : Value} {tid : TypeId} {dd : DataW H} {ps : List MemPlace}
    (hu : P.underlying tid = some (.slice e)) (h : RS F Fr.none W (.one (.slice e t xs .no)) v) (ht : DataW.Trod enc P W b sp hd tid v dd ps) : xs.length ≤ Rows.uptoBulk dd := by
  obtain ⟨a, c, hv, _, _⟩ := (show Cl F W (.slice e t) xs [v] from h)
  obtain rfl : v = .slice a xs.length c := by simpa using hv
  obtain ⟨fuel, hf⟩ := ht
  rcases _root_.Go.Deep.open_slice hu hf with ⟨h1, h2⟩ | ⟨a1, len, cap, m, n, D, Pl, h1, _, _, _, _, h2, _⟩
  · have h3 : xs.length = 0 := by
      have := (show [Value.slice a xs.length c] = [Value.slice none 0 0] from h1)
      simp at this
      omega
    omega
  · have h3 : xs.length = len := by
      have := (show [Value.slice a xs.length c] = [Value.slice (some a1) len cap] from h1)
      simp at this
      omega
    have h4 : dd = _ := congrArg Prod.fst h2
    subst h4
    have := length_le ((List.range len).map D)
    simp only [List.length_map, List.length_range] at this
    simp only [Rows.uptoBulk]
    omega
set_option maxRecDepth 100000 in
theorem walk {W : World} (hL : laidMetH Tryz.prog laidL W) {v0 : Value} {y0 : ((Ty.slice 39 Sv.T39)).den} {v1 : Value} {y1 : (Ty.str).den} (f0 : ((Ty.slice 39 Sv.T39)).wf y0) (f1 : (Ty.str).wf y1) (b0 : y0.length ≤ 4000000)
    (hrel : All2 (fun (p : Nat × PV) v => RP (fun _ => False) Fr.none W p.2 v) (argsOf 0 [.v (Ty.slice 39 Sv.T39) [], .v Ty.str []] (y0, y1)) [v0, v1]) : Calls Tryz.prog 3 #[v0, v1] W fun e w' => e = .returned (.bool true) ∧ Below W.heap.size W w' := by
  obtain ⟨k, hk⟩ := ex_run (E := Sv.E) (f := 3) (x := (y0, y1)) (r := true) (Sv.law08_RefuseMeans_upto y0 y1 b0)
  refine (law_calls_g Sv.envOK (globOK hL) (k := k) (f := 3) (x := (y0, y1)) (r := true) hk hrel).mono fun e w' ⟨v, he, hb, F, T, hv⟩ => ?_
  have : v = .bool true := hv
  subst this
  exact ⟨he, hb⟩
theorem reads (os : Os) {H : Type} (enc : TypeId × Value → H) : ∃ places, DataW.whole enc Tryz.prog ((World.laidAll Tryz.prog os laidL).forCall (fun _ _ => 0) ⟨#[], #[.slice none 0 0, .string ByteArray.empty], []⟩).memory Tryz.f3.params.toList Rows.refuseMeansSpec.vars false (#[.slice none 0 0, .string ByteArray.empty] : Array Value).toList 8 = some ([.nil, .lit (.string [])], [], places) := ⟨[], by kernel_rfl⟩
set_option maxRecDepth 100000 in
theorem lifted (os : Os) (started : os.Started) (H : Type) (enc : TypeId × Value → H) (Fi : Stop.Interp) :
    ReturnsInHanded {} Tryz.checked os 3 .any ((Rows.OpenSpec.upto Rows.refuseMeansSpec).preRow enc Tryz.prog Tryz.f3 Rows.refuseMeansUptoRow.domain false laidL) (((Rows.OpenSpec.upto Rows.refuseMeansSpec).at Fi).post enc Tryz.prog Tryz.f3 false true false false) := by
  obtain ⟨places, hx⟩ := reads os enc
  have hok : Input.okWideB Tryz.prog ((World.laidAll Tryz.prog os laidL).forCall (fun _ _ => 0) ⟨#[], #[.slice none 0 0, .string ByteArray.empty], []⟩) 3 ⟨#[], #[.slice none 0 0, .string ByteArray.empty], []⟩ = true := by kernel_rfl
  refine returnsInHanded_of_row (C := Tryz.checked) (s := Rows.OpenSpec.upto Rows.refuseMeansSpec) own started (by kernel_rfl) Tryz.func3
    ⟨World.laidAll Tryz.prog os laidL, fun _ _ => 0, ⟨#[], #[.slice none 0 0, .string ByteArray.empty], []⟩, World.laidAll_os _ _ _, World.shaped_of_ZipB (by kernel_rfl) (by kernel_rfl), (Input.okWide_of_okWideB (base := 0) hok).1, (Input.okWide_of_okWideB hok).2,
      OpenSpec.preRow_of_cond 8 hx (by kernel_rfl) (fun k hk => by cases hk; kernel_rfl) (by kernel_rfl) (by rw [MakeChecks.laidMetH_plain _ _ _ (by kernel_rfl)]; exact laidMet_laidAll _ (by kernel_rfl) (by kernel_rfl)), by
      simp only [Assume.holds]
      exact ⟨by simp, by simp, fun _ => Modest.zero, by simp, by simp⟩⟩ ?_
  intro W base args ds gs before hval0 hW hcnd hcond hsz0 hL _ _
  show Calls Tryz.prog 3 args W fun e W' => ∃ v, e = .returned v ∧ Rows.refuseMeansSpec.post enc Tryz.prog Tryz.f3 false true false false W args v W'
  have hsm : Rows.uptoSmall H (ds ++ gs) = true := hcond _ rfl
  have hval : ∀ (j : Nat) t v, Tryz.f3.params[j]? = some t → args[j]? = some v → Value.okWide Tryz.prog W .any base t v := hval0
  have hW' := hW
  obtain ⟨p, q, hA0, hV, rfl, hfz, hnd⟩ := hW
  have hA : DataW.TrodAll enc Tryz.prog W 0 (fun _ => true) true Tryz.f3.params.toList args.toList ds p := hA0
  rw [Tryz.params3] at hA hval hsz0
  obtain ⟨v0, vs0, d0, ds0, p0, q0, hargs, rfl, rfl, h0, r0⟩ := trodAll_cons hA
  obtain ⟨v1, vs1, d1, ds1, p1, q1, rfl, rfl, rfl, h1, r1⟩ := trodAll_cons r0
  obtain ⟨rfl, rfl, rfl⟩ := trodAll_nil r1
  obtain rfl : args = #[v0, v1] := by cases args; simp_all
  obtain ⟨rfl, rfl⟩ := trodVars_none hV
  have lt0 : ∀ x ∈ p0, x.block < W.heap.size := by obtain ⟨m, hm⟩ := h0; exact DataW.trod_lt m _ _ _ hm
  obtain ⟨y0, e0, f0⟩ := arg_rel (i := 0) ty0 (hval 0 22 v0 rfl rfl) h0 (fits_each hsz0 0 _ _ rfl rfl)
  have b0 : y0.length ≤ 4000000 := by
    have hb := arg_len Tryz.underlying22 e0 h0
    have hc := of_decide_eq_true hsm
    simp only [List.append_nil, Rows.uptoBulkAll] at hc
    omega
  have lt1 : ∀ x ∈ p1, x.block < W.heap.size := by obtain ⟨m, hm⟩ := h1; exact DataW.trod_lt m _ _ _ hm
  obtain ⟨y1, e1, f1⟩ := arg_rel (i := 1) ty1 (hval 1 9 v1 rfl rfl) h1 (fits_each hsz0 1 _ _ rfl rfl)
  clear hA0 hval0 hsz0
  refine (walk hL f0 f1 b0 (.cons e0 (.cons e1 .nil))).mono fun e W' ⟨he, bel⟩ => ?_
  subst he
  exact ⟨_, rfl, _, _, _, [], _, [], hW', trodAll_mk1 (shut_bool Tryz.underlying4 _), (trodAll_cons_mk (Below.trod laidOut (by kernel_rfl) (of_decide_eq_true (by kernel_rfl)) h0 bel lt0) (trodAll_cons_mk (Below.trod laidOut (by kernel_rfl) (of_decide_eq_true (by kernel_rfl)) h1 bel lt1) trodAll_mk0)), rfl, bel.frame _, fun h => by cases h⟩
theorem over : Rows.refuseMeansUptoRow.holds Tryz.pinned (Rows.OpenSpec.upto Rows.refuseMeansSpec) :=
  OpenClaim.holds_of_cond 3 Tryz.f3 rfl rfl rfl rfl rfl rfl rfl ⟨rfl, rfl, rfl, rfl, rfl⟩ rfl rfl rfl rfl rfl (by kernel_rfl) Tryz.func3 (by kernel_rfl)
    (of_decide_eq_true (by kernel_rfl)) (by unfold Func.isWrapper; first | (rw [if_pos (by decide +kernel)]; kernel_rfl) | (rw [if_neg (by decide +kernel)]; exact ⟨rfl, rfl⟩))
    (fun os started H enc _ Fi => by rw [OpenClaim.pre_eq_preRow]; exact lifted os started H enc Fi)
theorem proved : Rows.RefuseMeansUptoCardSaid :=
  Claim7.holds_tied_plain_at .later [] [.data, .widerDeep, .pinned] true (true, "c98182ca7c12f04488a25d54b415782412b1f5e4111bdc45e969ddfc0bfaa591") false over (fun _ h => by cases h) (by kernel_rfl) (fun _ h => by cases h) refuseMeansUpto_row_tie rfl ⟨rfl, rfl⟩ (by kernel_rfl) rfl
    (fun f fn hf hfn => by
      obtain rfl : f = 3 := Option.some.inj ((show Tryz.prog.funcNamed "redress/redresslaw08.RefuseMeans" = some 3 by kernel_rfl).symm.trans hf) |>.symm
      obtain rfl : fn = Tryz.f3 := (Option.some.inj (Tryz.func3.symm.trans hfn)).symm
      exact ⟨by kernel_rfl, fun j t ht => by
        rw [Tryz.params3] at ht
        have hm : t ∈ [22, 9] := by simpa using Array.mem_of_getElem? ht
        have hall : ([22, 9].all fun u => !Tryz.prog.wantsStandIn u) = true := by kernel_rfl
        exact (show Tryz.prog.wantsStandIn t = false by simpa using List.all_eq_true.1 hall t hm)⟩)
    (by kernel_rfl)
#print axioms proved
end Go.Proofs.YthhefjmdfdckjaaGreatDoor.refuseMeans
namespace Go.Proofs.YthhefjmdfdckjaaGreatDoor
/-- The card, under a short name, for the claim. -/
theorem refuseMeansUpto_holds : Rows.RefuseMeansUptoCardSaid := refuseMeans.proved
end Go.Proofs.YthhefjmdfdckjaaGreatDoor
