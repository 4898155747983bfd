/- The laws of traces: what they tell. -/
import Derived.Test.YtjogkjgpbeenfaaGreatDoorW02
import Derived.Test.YtjogkjgpbeenfaaGreatDoorW07
namespace Go.Proofs.YtjogkjgpbeenfaaGreatDoor.Sv
open Go Go.Sv Go.Rd
set_option linter.unusedVariables false
set_option linter.unusedSimpArgs false
def wfT (t : Tc) : Prop := (t.1.length ≤ reachBytes ∧ ∀ x ∈ t.1, x.size ≤ reachBytes) ∧ (Lit.int .i64 t.2).wf = true
def wfTs (l : List Tc) : Prop := l.length ≤ reachBytes ∧ ∀ x ∈ l, wfT x
theorem wfT.len [Dfr] {t : Tc} (h : wfT t) : t.1.length ≤ 140737488351232 := h.1.1
theorem wfTs.short [Dfr] {l : List Tc} (h : wfTs l) : zpq l := fun x hx => by have := (h.2 x hx).len; omega
theorem qdw [Dfr] (xs : List Tc) (hx : xs.length ≤ 1000000000) : ∀ (r : List Tc) (i : Nat) (acc : List Tc), xs.drop i = r → acc.length ≤ i → znz acc xs (xs.length : Int) (i : Int) = some (0, acc ++ r)
  | [], i, acc, h, ha => by
    obtain ⟨h1, h2⟩ := drop_nil h
    rw [zzi]
    simp only [h2, cond_false, List.append_nil]
  | x :: r, i, acc, h, ha => by
    obtain ⟨h1, h2, h3, h4, h5, h6⟩ := zad h
    rw [zzi]
    simp only [h2, h3, h4, cond_true, room (show (acc.length + 1) * 32 ≤ 140737488355328 by omega), zcf (show i < 9223372036854775807 by omega), qdw xs hx r (i + 1) (acc ++ [x]) h5 (by simp; omega), List.append_assoc, List.singleton_append]
theorem yav [Dfr] (xs : List Tc) (hx : xs.length ≤ 1000000000) : qcs xs = some xs := by
  have e := qdw xs hx xs 0 [] rfl (by simp)
  rw [Int.natCast_zero] at e
  rw [qxd, e]; rfl
end Go.Proofs.YtjogkjgpbeenfaaGreatDoor.Sv

/- What the reference's functions of layer 7 compute: in plain words. -/
namespace Go.Proofs.YtjogkjgpbeenfaaGreatDoor.Sv
open Go Go.Sv Go.Rd
set_option linter.unusedVariables false
set_option linter.unusedSimpArgs false
end Go.Proofs.YtjogkjgpbeenfaaGreatDoor.Sv

/- The reference's traces and pairs of terms that are small; what is told of rows. -/
namespace Go.Proofs.YtjogkjgpbeenfaaGreatDoor.Sv
open Go Go.Sv Go.Rd
set_option linter.unusedVariables false
set_option linter.unusedSimpArgs false
end Go.Proofs.YtjogkjgpbeenfaaGreatDoor.Sv

/- What package mean, and its reference, tell of any row. -/
namespace Go.Proofs.YtjogkjgpbeenfaaGreatDoor.Sv
open Go Go.Sv Go.Rd
set_option linter.unusedVariables false
set_option linter.unusedSimpArgs false
def zzb (l : List Nd) : Prop := l.length ≤ 24 ∧ (l.countP fun x => decide (x.1 ∈ ([1] : List Int))) ≤ 6
instance (l : List Nd) : Decidable (zzb l) := by unfold zzb; infer_instance
theorem qiq [Dfr] {m : Tm} : zzb m.row ↔ m.small := by
  unfold zzb Tm.small
  rw [Tm.zac, Tm.zoj]
noncomputable def trL (l : List Nd) : List Tc := match tmOf l with | some m => m.tr | none => []
theorem yjx [Dfr] {m : Tm} (h : m.fine) (hs : m.size ≤ 200) : trL m.row = m.tr := by
  unfold trL; rw [znl.2 ⟨rfl, h, hs⟩]
noncomputable def qdp (l : List Nd) : List Tc × Int := if on (sOf l) = 3 then (if zzb l then (trL l, 0) else ([], 70)) else ([], 1)
theorem yvo [Dfr] {l : List Nd} (h : on (sOf l) = 3 ∨ on (sOf l) = 4) : ∃ m : Tm, l = m.row ∧ m.fine ∧ m.size ≤ 200 ∧ (on (sOf l) = 3 → m.po = true) ∧ (on (sOf l) = 4 → m.qo = true) := by
  obtain ⟨m, h1, h2, h3, h4⟩ := yus (l := l) (by intro e; rw [e] at h; revert h; decide)
  exact ⟨m, h1, h2, h3, fun e => by rw [Tm.yum, ← h4]; exact decide_eq_true e, fun e => by rw [Tm.ywx, ← h4]; exact decide_eq_true e⟩
theorem qko [Dfr] (l : List Nd) : zxa l = some (decide (zzb l)) := by
  rw [qww]
  by_cases h : l.length ≤ 24
  · rw [decide_eq_true (show (l.length : Int) ≤ 24 by omega), cond_true, qoo l [1] (by omega) (by simp), Option.bind_some]
    exact congrArg some (decide_eq_decide.2 (by unfold zzb; omega))
  · rw [decide_eq_false (show ¬ (l.length : Int) ≤ 24 by omega), cond_false, decide_eq_false (fun h' : zzb l => h h'.1)]
theorem ywp [Dfr] (l : List Nd) (hl : l.length ≤ 4611686018427387904) (b : Bool) (fv : FnV) (r : List Tc) (hr : on (sOf l) = (if b then 4 else 3) → zzb l → dyn E fv [.one (.slice 36 (.pair (.int .i64) (.pair .str (.int .i64))) l .no)] (.slice 66 (.pair (.slice 9 .str) (.int .i64))) = some r) :
    zgn l b fv = some (if on (sOf l) = (if b then 4 else 3) then (if zzb l then (r, 0) else ([], 70)) else ([], 1)) := by
  rw [zvm, qnk l b hl, Option.bind_some]
  by_cases h : on (sOf l) = (if b then 4 else 3)
  · rw [decide_eq_true h, if_pos h, qko]
    simp only [Bool.not_true, cond_false, Option.bind_some]
    by_cases hs : zzb l
    · rw [decide_eq_true hs, if_pos hs, hr h hs]; rfl
    · rw [decide_eq_false hs, if_neg hs]; rfl
  · rw [decide_eq_false h, if_neg h]; rfl
theorem qkp [Dfr] [qcc] (l : List Nd) (hl : l.length ≤ 4611686018427387904) : zxb l = some (qdp l) := by
  rw [qwx, ywp l hl false _ (trL l) fun h hs => ?_]
  · rfl
  · obtain ⟨m, rfl, hf, hz, hp, _⟩ := yvo (l := l) (.inl h)
    rw [yjx hf hz]
    exact (qsf m.row).trans ((zku m (qiq.1 hs)).1 (hp h))
theorem qit [Dfr] {m : Tm} (hf : m.fine) (hz : m.size ≤ 200) (ho : m.po = true) (hs : m.small) : qdp m.row = (m.tr, 0) := by
  unfold qdp
  rw [ylc hf hz, if_pos (of_decide_eq_true ((Tm.yum m).symm.trans ho)), if_pos (qiq.2 hs), yjx hf hz]
end Go.Proofs.YtjogkjgpbeenfaaGreatDoor.Sv
