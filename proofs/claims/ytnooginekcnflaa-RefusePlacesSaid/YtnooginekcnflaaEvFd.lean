/- More rounds tell the same. -/
import Derived.Test.YtnooginekcnflaaEvFc
namespace Go.Sv
open Go
set_option linter.unusedVariables false
set_option linter.unusedSimpArgs false

def Le {α : Type} (a b : Option α) : Prop := ∀ r, a = some r → b = some r
theorem Le.refl {α : Type} (a : Option α) : Le a a := fun _ h => h
theorem Le.bind {α β : Type} {a b : Option α} {g g' : α → Option β} (h : Le a b) (hg : ∀ x, Le (g x) (g' x)) : Le (a.bind g) (b.bind g') := fun r hr => by
  simp only [Option.bind_eq_some_iff] at hr ⊢
  obtain ⟨x, h1, h2⟩ := hr
  exact ⟨x, h x h1, hg x r h2⟩
theorem Le.cond {α : Type} {c : Bool} {a b a' b' : Option α} (h1 : Le a a') (h2 : Le b b') : Le (bif c then a else b) (bif c then a' else b') := by cases c <;> assumption
theorem Le.ite {α : Type} {c : Prop} [Decidable c] {a b a' b' : Option α} (h1 : Le a a') (h2 : Le b b') : Le (if c then a else b) (if c then a' else b') := by split <;> assumption

section
variable {E : Env} {run run' : Runs E}

theorem callK_mono (h : ∀ f x, Le (run f x) (run' f x)) (σ : St) (d : Option Nat) (f : Nat) (args : List SV) : Le (callK E run σ d f args some) (callK E run' σ d f args some) := by
  unfold callK
  refine Le.cond (.refl _) ?_
  split
  · split
    · exact Le.cond (Le.bind (h _ _) fun _ => .refl _) (.refl _)
    · exact .refl _
  · exact .refl _

theorem callDyn_mono (h : ∀ f x, Le (run f x) (run' f x)) (v : FnV) (args : List SV) (t : Ty) : Le (callDyn E run v args t) (callDyn E run' v args t) := by
  unfold callDyn
  refine Le.cond (.refl _) ?_
  split
  · exact Le.cond (Le.bind (h _ _) fun _ => .refl _) (.refl _)
  · exact .refl _

theorem opK_mono0 (h : ∀ f x, Le (run f x) (run' f x)) (σ : St) (o : Oper) : Le (opK E run σ o some) (opK E run' σ o some) := by
  cases ho : o.op with
  | call c =>
    cases hc : c.callee with
    | value f =>
      simp only [opK, ho, hc]
      split
      · exact callK_mono h _ _ _ _
      · split
        · split
          · exact Le.ite (Le.bind (callDyn_mono h _ _ _) fun _ => .refl _) (.refl _)
          · exact .refl _
        · exact .refl _
      · exact .refl _
    | builtin b => cases b <;> (simp only [opK, ho, hc]; exact .refl _)
    | invoke r n => simp only [opK, ho, hc]; exact .refl _
  | makeFunc f a b => cases f <;> (simp only [opK, ho]; exact .refl _)
  | _ => simp only [opK, ho]; exact .refl _

theorem opK_mono (h : ∀ f x, Le (run f x) (run' f x)) {R : Type} (σ : St) (o : Oper) {K K' : St → Option R} (hK : ∀ σ, Le (K σ) (K' σ)) : Le (opK E run σ o K) (opK E run' σ o K') := by
  rw [opK_bind, opK_bind (K := K')]
  exact Le.bind (opK_mono0 h σ o) hK

theorem guardK_mono {R : Type} {σ : St} {slot : Nat} {want : Bool} {go skip go' skip' : St → Option R} (h1 : ∀ σ, Le (go σ) (go' σ)) (h2 : ∀ σ, Le (skip σ) (skip' σ)) : Le (guardK σ slot want go skip) (guardK σ slot want go' skip') := by
  unfold guardK
  split
  · exact Le.cond (Le.cond (h1 _) (h2 _)) (Le.cond (h2 _) (h1 _))
  · exact h2 _
  · exact .refl _

theorem opGK_mono (h : ∀ f x, Le (run f x) (run' f x)) {R : Type} (all : List Oper) (σ : St) (o : Oper) {K K' : St → Option R} (hK : ∀ σ, Le (K σ) (K' σ)) : Le (opGK E run all σ o K) (opGK E run' all σ o K') := by
  unfold opGK
  split
  · exact opK_mono h σ o hK
  · split
    · exact .refl _
    · exact guardK_mono (fun σ => opK_mono h σ o hK) fun σ => hK _

theorem opsK_mono (h : ∀ f x, Le (run f x) (run' f x)) {R : Type} (all : List Oper) {K K' : St → Option R} (hK : ∀ σ, Le (K σ) (K' σ)) : ∀ (l : List Oper) (σ : St), Le (opsK E run all l σ K) (opsK E run' all l σ K')
  | [], σ => hK σ
  | o :: r, σ => opGK_mono h all σ o fun σ' => opsK_mono h all hK r σ'

theorem freeK_mono (h : ∀ f x, Le (run f x) (run' f x)) {R : Type} (all : List Oper) (bs ds nn : List Nat) {K K' : St → List (Nat × (TypeId × List PC)) → Option R} (hK : ∀ σ nb, Le (K σ nb) (K' σ nb)) :
    ∀ (l : List Oper) (i : Nat) (σ : St) (nb : List (Nat × (TypeId × List PC))), Le (freeK E run all bs ds nn i l σ nb K) (freeK E run' all bs ds nn i l σ nb K')
  | [], i, σ, nb => by unfold freeK; exact hK σ nb
  | o :: r, i, σ, nb => by
    unfold freeK
    split
    · exact .refl _
    · refine Le.cond ?_ (.refl _)
      have nx : ∀ (d : Nat) (σ1 : St) (pv : PV) (nb' : List (Nat × (TypeId × List PC))), Le (bif pv.refs.all (refOK bs ds i) then freeK E run all bs ds nn (i + 1) r (σ1.put (some d) pv) nb' K else none) (bif pv.refs.all (refOK bs ds i) then freeK E run' all bs ds nn (i + 1) r (σ1.put (some d) pv) nb' K' else none) := fun d σ1 pv nb' =>
        Le.cond (freeK_mono h all bs ds nn hK r (i + 1) _ nb') (.refl _)
      simp only
      split
      · split
        · split
          · split
            · exact Le.cond (nx _ _ _ _) (.refl _)
            · exact .refl _
          · exact .refl _
        · exact Le.cond (opK_mono h _ o fun σ' => nx _ _ _ _) (.refl _)
      · split
        · exact .refl _
        · refine guardK_mono (fun σ1 => ?_) fun σ1 => nx _ _ _ _
          split
          · split
            · split
              · exact Le.cond (nx _ _ _ _) (.refl _)
              · exact .refl _
            · exact .refl _
          · exact Le.cond (opK_mono h _ o fun σ' => nx _ _ _ _) (.refl _)

theorem drawK_mono (h : ∀ f x, Le (run f x) (run' f x)) {R : Type} (all : List Oper) (σ : St) {K K' : St → Option R} (hK : ∀ σ, Le (K σ) (K' σ)) : Le (drawK E run all σ K) (drawK E run' all σ K') := by
  unfold drawK
  exact Le.cond (freeK_mono h all _ _ _ (fun σ nb => opsK_mono h all hK _ _) _ _ _ _) (.refl _)

theorem loopT_mono {hs os : Shape} {ex : List Ex} {body body' : St → (Ex → St → Option (Nat × Tup os.ks)) → Option (Nat × Tup os.ks)} (hb : ∀ σ K K', (∀ e σ, Le (K e σ) (K' e σ)) → Le (body σ K) (body' σ K')) :
    ∀ (n m : Nat) (x : Tup hs.ks), n ≤ m → Le (loopT (hs := hs) (os := os) ex body n x) (loopT (hs := hs) (os := os) ex body' m x)
  | 0, m, x, _ => fun r hr => by simp [loopT] at hr
  | n + 1, 0, x, h => by omega
  | n + 1, m + 1, x, h => by
    simp only [loopT]
    refine hb _ _ _ fun e σ => ?_
    split
    · split
      · exact loopT_mono hb n m _ (by omega)
      · exact .refl _
    · exact .refl _

theorem scopeT_mono {hs os : Shape} {l : Nat} {ex : List Ex} {body body' : St → (Ex → St → Option (Nat × Tup os.ks)) → Option (Nat × Tup os.ks)} (hb : ∀ σ K K', (∀ e σ, Le (K e σ) (K' e σ)) → Le (body σ K) (body' σ K')) :
    ∀ (n m : Nat) (x : Tup hs.ks), n ≤ m → Le (scopeT (hs := hs) (os := os) l ex body n x) (scopeT (hs := hs) (os := os) l ex body' m x)
  | 0, m, x, _ => fun r hr => by simp [scopeT] at hr
  | n + 1, 0, x, h => by omega
  | n + 1, m + 1, x, h => by
    simp only [scopeT]
    refine hb _ _ _ fun e σ => ?_
    split
    · refine Le.ite ?_ (.refl _)
      split
      · exact scopeT_mono hb n m _ (by omega)
      · exact .refl _
    · exact .refl _

theorem pickEx_mono {R : Type} {i : Nat} {K K' : Ex → Option R} (h : ∀ e, Le (K e) (K' e)) : ∀ (l : List Ex) (j : Nat), Le (pickEx i K l j) (pickEx i K' l j)
  | [], j => .refl _
  | [e], j => h e
  | e :: e' :: r, j => by
    simp only [pickEx]
    exact Le.cond (h e) (pickEx_mono h (e' :: r) (j + 1))

theorem execK_mono (h : ∀ f x, Le (run f x) (run' f x)) {n m f : Nat} (hnm : n ≤ m) : ∀ (c : Code) (cur : Nat) (j : Option Nat) {R : Type} (σ : St) (K K' : Ex → St → Option R), (∀ e σ, Le (K e σ) (K' e σ)) → Le (execK E run n f c cur j σ K) (execK E run' m f c cur j σ K') := by
  intro c
  induction c with
  | skip => intro cur j R σ K K' hK; cases j <;> first | exact hK _ _ | exact .refl _
  | region id ops dr =>
    intro cur j R σ K K' hK
    cases j with
    | none =>
      simp only [execK]
      exact Le.cond (drawK_mono h _ _ fun σ => hK _ _) (opsK_mono h _ (fun σ => hK _ _) _ _)
    | some l => exact .refl _
  | seq a b iha ihb =>
    intro cur j R σ K K' hK
    have hk : ∀ (e : Ex) (σ' : St), Le (match e with | Ex.normal => execK E run n f b cur none σ' K | e => K e σ') (match e with | Ex.normal => execK E run' m f b cur none σ' K' | e => K' e σ') := fun e σ' => by
      cases e with
      | normal => exact ihb cur none σ' K K' hK
      | _ => exact hK _ _
    cases j with
    | none => simp only [execK]; exact iha cur none σ _ _ hk
    | some l => simp only [execK]; exact Le.cond (iha cur (some l) σ _ _ hk) (ihb cur (some l) σ K K' hK)
  | cond c a b iha ihb =>
    intro cur j R σ K K' hK
    cases j with
    | some l => cases c <;> exact .refl _
    | none =>
      cases c with
      | tmp t =>
        simp only [execK]
        split
        · exact Le.cond (iha cur none _ K K' hK) (ihb cur none _ K K' hK)
        · exact .refl _
      | _ => exact .refl _
  | block id c ih =>
    intro cur j R σ K K' hK
    cases j with
    | some l => exact .refl _
    | none =>
      simp only [execK]
      refine ih id none σ _ _ fun e σ' => ?_
      split
      · exact Le.ite (hK _ _) (hK _ _)
      · exact hK _ _
  | loop c ih =>
    intro cur j R σ K K' hK
    cases j with
    | some l => exact .refl _
    | none =>
      simp only [execK]
      split
      · exact .refl _
      · split
        · exact .refl _
        · exact Le.bind (loopT_mono (fun σ' K K' hK => ih cur none σ' K K' hK) n m _ hnm) fun r => pickEx_mono (fun e => hK _ _) _ _
  | scope c ih =>
    intro cur j R σ K K' hK
    cases j with
    | some l => exact .refl _
    | none =>
      simp only [execK]
      refine ih cur none σ _ _ fun e σ' => ?_
      split
      · refine Le.cond ?_ (hK _ _)
        split
        · split
          · exact .refl _
          · exact Le.bind (scopeT_mono (fun σ' K K' hK => ih cur _ σ' K K' hK) n m _ hnm) fun r => pickEx_mono (fun e => Le.cond (.refl _) (hK _ _)) _ _
        · exact .refl _
      · exact hK _ _
  | exit id => intro cur j R σ K K' hK; cases j <;> first | exact hK _ _ | exact .refl _
  | goto l => intro cur j R σ K K' hK; cases j <;> first | exact hK _ _ | exact .refl _
  | ret => intro cur j R σ K K' hK; cases j <;> first | exact hK _ _ | exact .refl _
  | label l =>
    intro cur j R σ K K' hK
    cases j with
    | none => exact hK _ _
    | some l' => simp only [execK]; exact Le.cond (hK _ _) (.refl _)
  | _ => intro cur j R σ K K' hK; exact .refl _

theorem fnK_mono (h : ∀ f x, Le (run f x) (run' f x)) {n m f : Nat} (hnm : n ≤ m) (fn : Func) (x : Tup (E.sig f).args) : Le (fnK E run n f fn x) (fnK E run' m f fn x) := by
  unfold fnK
  split
  · exact .refl _
  · exact execK_mono h hnm _ _ _ _ _ _ fun e σ => .refl _
end

theorem run_le {E : Env} : ∀ (n m : Nat), n ≤ m → ∀ f x, Le (run E n f x) (run E m f x)
  | 0, m, _, f, x => fun r hr => by simp [run] at hr
  | n + 1, 0, h, f, x => by omega
  | n + 1, m + 1, h, f, x => by
    simp only [run]
    split
    · exact .refl _
    · split
      · exact fnK_mono (run_le n m (by omega)) (by omega) _ x
      · exact .refl _

/-- More rounds tell the same. -/
theorem run_mono {E : Env} {n m f : Nat} {x : Tup (E.sig f).args} {r : Tup (E.sig f).res} (h : run E n f x = some r) (hnm : n ≤ m) : run E m f x = some r := run_le n m hnm f x r h

theorem lp_mono {E : Env} {f b k k' n n' : Nat} {x : Tup (E.hs f b).ks} {r : Nat × Tup (E.os f b).ks} (h : lp E f b k n x = some r) (hk : k ≤ k') (hn : n ≤ n') : lp E f b k' n' x = some r := by
  unfold lp at h ⊢
  split at h
  · cases h
  · split at h
    · cases h
    · exact loopT_mono (body' := fun σ' K' => execK E (run E k') k' f _ b none σ' K') (fun σ' K K' hK => execK_mono (E := E) (run_le k k' hk) hk _ b none σ' K K' hK) n n' x hn r h
theorem sc_mono {E : Env} {f l k k' n n' : Nat} {x : Tup (E.hs f (1000 + l)).ks} {r : Nat × Tup (E.os f (1000 + l)).ks} (h : sc E f l k n x = some r) (hk : k ≤ k') (hn : n ≤ n') : sc E f l k' n' x = some r := by
  unfold sc at h ⊢
  split at h
  · cases h
  · split at h
    · cases h
    · exact scopeT_mono (body' := fun σ' K' => execK E (run E k') k' f _ _ (some l) σ' K') (fun σ' K K' hK => execK_mono (E := E) (run_le k k' hk) hk _ _ (some l) σ' K K' hK) n n' x hn r h

end Go.Sv
