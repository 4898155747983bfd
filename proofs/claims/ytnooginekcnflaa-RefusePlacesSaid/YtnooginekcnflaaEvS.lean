/- The operations, all of them; what is done with their states afterwards. -/
import Derived.Test.YtnooginekcnflaaEvR
namespace Go.Sv
open Go
set_option linter.unusedVariables false
set_option linter.unusedSimpArgs false

section
variable {E : Env} {run : Runs E} {R : Type}

theorem cond_bind {α : Type} (c : Bool) (x : α) (K : α → Option R) : (bif c then K x else none) = (bif c then some x else none).bind K := by cases c <;> rfl
theorem cond_bind' {α : Type} (c : Bool) (x : α) (K : α → Option R) : (bif c then none else K x) = (bif c then none else some x).bind K := by cases c <;> rfl

theorem loadK_bind (σ : St) (t : TypeId) (p : PV) (K : SV → Option R) : loadK E σ t p K = (loadK E σ t p some).bind K := by
  unfold loadK
  repeat' (first | rfl | split)
theorem storeK_bind (σ : St) (t : TypeId) (p : PV) (x : SV) (K : St → Option R) : storeK E σ t p x K = (storeK E σ t p x some).bind K := by
  unfold storeK
  repeat' (first | rfl | split)
  all_goals (cases mem (tagsOf x.cells) _ <;> rfl)
theorem binK_bind (op : BinOp) (t : TypeId) (a b : SV) (K : PC → Option R) : binK E op t a b K = (binK E op t a b some).bind K := by
  unfold binK
  repeat' (first | rfl | split)
  all_goals first | exact cond_bind _ _ _ | exact cond_bind' _ _ _
theorem sliceK_bind (i : TI) (σ : St) (d : Option Nat) (x : PV) (lo hi mx : Option Operand) (K : St → Option R) : sliceK E i σ d x lo hi mx K = (sliceK E i σ d x lo hi mx some).bind K := by
  unfold sliceK
  repeat' (first | rfl | split)
  all_goals first | exact cond_bind _ _ _ | exact cond_bind' _ _ _
theorem appendK_bind (σ : St) (d : Option Nat) (ty : TypeId) (s x : PV) (K : St → Option R) : appendK E σ d ty s x K = (appendK E σ d ty s x some).bind K := by
  unfold appendK
  repeat' (first | rfl | split)
  all_goals first | exact cond_bind _ _ _ | exact cond_bind' _ _ _
theorem appendZK_bind (σ : St) (d : Option Nat) (ty ty' : TypeId) (s x : PV) (K : St → Option R) : appendZK E σ d ty ty' s x K = (appendZK E σ d ty ty' s x some).bind K := by
  unfold appendZK
  repeat' (first | rfl | split)
  all_goals first | exact cond_bind _ _ _ | exact cond_bind' _ _ _
theorem callK_bind (σ : St) (d : Option Nat) (f : Nat) (args : List SV) (K : St → Option R) : callK E run σ d f args K = (callK E run σ d f args some).bind K := by
  unfold callK
  cases (E.sig f).io with
  | true => rfl
  | false =>
    simp only [cond_false]
    repeat' (first | rfl | split)
    all_goals
      cases ((E.sig f).res.all Kd.isFlat || _)
      · rfl
      · simp only [cond_true, Option.bind_assoc, Option.bind_some]

theorem loadK_bind2 (σ : St) (t : TypeId) (p : PV) (g : SV → St) (K : St → Option R) : loadK E σ t p (fun s => K (g s)) = (loadK E σ t p fun s => some (g s)).bind K := by
  rw [loadK_bind (K := fun s => K (g s)), loadK_bind (K := fun s => some (g s)), Option.bind_assoc]; rfl
theorem storeK_bind2 (σ : St) (t : TypeId) (p : PV) (x : SV) (g : St → St) (K : St → Option R) : storeK E σ t p x (fun s => K (g s)) = (storeK E σ t p x fun s => some (g s)).bind K := by
  rw [storeK_bind (K := fun s => K (g s)), storeK_bind (K := fun s => some (g s)), Option.bind_assoc]; rfl
theorem binK_bind2 (op : BinOp) (t : TypeId) (a b : SV) (g : PC → St) (K : St → Option R) : binK E op t a b (fun s => K (g s)) = (binK E op t a b fun s => some (g s)).bind K := by
  rw [binK_bind (K := fun s => K (g s)), binK_bind (K := fun s => some (g s)), Option.bind_assoc]; rfl
theorem bind_bind2 {α : Type} (x : Option α) (g : α → St) (K : St → Option R) : (x.bind fun r => K (g r)) = (x.bind fun r => some (g r)).bind K := by cases x <;> rfl
theorem cond_both {α : Type} (c : Bool) {a b : Option R} {a' b' : Option α} {K : α → Option R} (h1 : a = a'.bind K) (h2 : b = b'.bind K) : (bif c then a else b) = (bif c then a' else b').bind K := by cases c <;> assumption

theorem opK_bind (σ : St) (o : Oper) (K : St → Option R) : opK E run σ o K = (opK E run σ o some).bind K := by
  unfold opK
  dsimp only
  repeat' (first | rfl | (exact cond_bind _ _ _) | (exact cond_bind' _ _ _) | (exact loadK_bind2 ..) | (exact storeK_bind2 ..) | (exact binK_bind2 ..) | (exact sliceK_bind ..) | (exact appendK_bind ..) | (exact appendZK_bind ..) | (exact callK_bind ..) | (exact bind_bind2 ..) | (refine cond_both _ ?_ ?_) | split)end

/-- What the tables of a seat must be. -/
structure TabOK (P : Program) (E : Env) : Prop where
  mixed : P.follows .mixedOrders = true
  types : TypesOK P E
  elems : ElemsOK P E

theorem op_sound {X : Ctx} {run : Runs X.E} {o : Oper} {σ σ' : St} (hT : TabOK X.P X.E) (hR : RunOK X.P X.E run) (hd : ∀ d, o.dst = some d → d < X.n) (h : opK X.E run σ o some = some σ') : OpSound X o σ σ' := by
  cases ho : o.op with
  | move x =>
    have h' := h
    simp only [opK, ho, Option.some.injEq] at h'
    subst h'
    exact sound_move (.inl ho) hd
  | assign x =>
    have h' := h
    simp only [opK, ho, Option.some.injEq] at h'
    subst h'
    exact sound_move (.inr ho) hd
  | pick c x y =>
    simp only [opK, ho] at h
    split at h
    · rename_i t hc
      have : σ' = σ.put o.dst (X.E.typed o.type (σ.ev (bif t then x else y))) := by
        cases t <;> simp at h <;> exact h.symm
      subst this
      exact sound_pick ho hd hc
    · cases h
  | alloc t => exact alloc_sound hT.types ho hd h
  | box t x => exact box_sound ho hd h
  | build t p => exact build_sound hT.types ho hd h
  | buildSlice t n p => exact buildSlice_sound hT.types ho hd h
  | load t p =>
    simp only [opK, ho] at h
    rw [show loadK X.E σ t (σ.ev p) (fun s => some (σ.put o.dst (.sv s))) = (loadK X.E σ t (σ.ev p) some).bind fun s => some (σ.put o.dst (.sv s)) from loadK_bind ..] at h
    simp only [Option.bind_eq_some_iff, Option.some.injEq] at h
    obtain ⟨s, hs, rfl⟩ := h
    exact sound_load hT.types ho hd hs
  | store t p x => exact store_sound hT.types ho hd h
  | nilCheck x => exact nilCheck_sound ho hd h
  | binOp op t x y z => exact binOp_sound hT.types ho hd h
  | unOp op t x => exact unOp_sound ho hd h
  | convert a b x => exact convert_sound hT.types ho hd h
  | makeFunc f a b => exact makeFunc_sound ho hd h
  | slice t x lo hi mx => exact slice_sound hT.types hT.elems ho hd h
  | fieldAddr t p f => exact sound_fieldAddr hT.types ho hd h
  | indexAddr t x ix => exact sound_indexAddr hT.types hT.elems ho hd h
  | index t x ix => exact index_sound hT.types ho hd h
  | extract t ix => exact extract_sound ho hd h
  | call c =>
    cases hc : c.callee with
    | builtin b =>
      cases b with
      | len => exact len_sound hT.types ho hc hd h
      | cap => exact cap_sound hT.types ho hc hd h
      | append => exact append_sound hT.types ho hc hd h
      | max => exact max_sound ho hc hd h
      | min => exact min_sound ho hc hd h
      | _ => simp [opK, ho, hc] at h
    | value f => exact call_sound hT.types hR ho hc hd h
    | invoke r n => simp [opK, ho, hc] at h
  | _ => simp [opK, ho] at h

end Go.Sv
