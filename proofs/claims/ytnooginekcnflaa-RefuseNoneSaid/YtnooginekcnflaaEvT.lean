/- Code: what the evaluator tells of it is what the model does. -/
import Derived.Test.YtnooginekcnflaaEvS
import Derived.ScopeJumps
namespace Go.Sv
open Go
set_option linter.unusedVariables false
set_option linter.unusedSimpArgs false

section
variable {X : Ctx} {run : Runs X.E}

/-! ### operations with their guards -/
def StepSound (X : Ctx) (ops : Array Oper) (i : Nat) (σ σ' : St) : Prop :=
  ∀ (A : Fr) (a : Act) (w : World), Inv X A σ a.tmps w → a.defers = [] → ∀ (next : Act → World → Prop) (Q : Exit → Act → World → Prop),
    (∀ A' a' w', Inv X A' σ' a'.tmps w' → a'.defers = [] → next a' w') → wpOp X.P ops Q i next a w

theorem Inv.reput {A : Fr} {σ : St} {tm : Array Value} {w : World} (h : Inv X A σ tm w) {d : Nat} {p : PV} (hp : RP (X.F A) A w p (tm.getD d undef)) : Inv X A (σ.put (some d) p) tm w := by
  refine ⟨h.sz, h.kept, h.glob, fun i => ?_, h.box, h.good, fun q hq => ?_⟩
  · rw [St.get_put]
    by_cases hi : i = d
    · subst hi; simp only [if_true]; exact hp
    · simp only [hi, if_false]; exact h.slot i
  · rcases List.mem_cons.1 hq with rfl | hq
    · exact ⟨_, hp⟩
    · exact h.ent q hq

theorem yielded_bool {ops : Array Oper} {tm : Array Value} {j slot : Nat} {b : Bool} (hs : (ops[j]?).bind (·.dst) = some slot) (h : tm.getD slot undef = .bool b) : yielded ops tm j = some b := by
  unfold yielded
  rw [hs]
  simp only [Option.bind_some]
  rw [Array.getD_eq_getD_getElem?] at h
  cases ht : tm[slot]? with
  | none => rw [ht] at h; cases h
  | some v => rw [ht] at h; simp only [Option.getD_some] at h; rw [h]
theorem yielded_void {ops : Array Oper} {tm : Array Value} {j slot : Nat} (hs : (ops[j]?).bind (·.dst) = some slot) (h : tm.getD slot undef = undef) : yielded ops tm j = none := by
  unfold yielded
  rw [hs]
  simp only [Option.bind_some]
  rw [Array.getD_eq_getD_getElem?] at h
  cases ht : tm[slot]? with
  | none => rfl
  | some v => rw [ht] at h; simp only [Option.getD_some] at h; rw [h]; rfl

theorem step_sound {ops : Array Oper} {i : Nat} {o : Oper} {σ : St} {R : Type} {K : St → Option R} {r : R} (hT : TabOK X.P X.E) (hR : RunOK X.P X.E run) (hi : ops[i]? = some o) (hd : ∀ d, o.dst = some d → d < X.n)
    (h : opGK X.E run ops.toList σ o K = some r) : ∃ σ', K σ' = some r ∧ StepSound X ops i σ σ' := by
  unfold opGK at h
  split at h
  · rename_i hg
    rw [opK_bind] at h
    simp only [Option.bind_eq_some_iff] at h
    obtain ⟨σ', h1, h2⟩ := h
    refine ⟨σ', h2, fun A a w hinv hdef next Q hn => ?_⟩
    unfold wpOp
    simp only [hi, Region.wanted, hg, if_true]
    exact .inl (op_sound hT hR hd h1 A a w hinv hdef next Q hn)
  · rename_i j want hg
    split at h
    · cases h
    · rename_i slot hslot
      have hslot' : (ops[j]?).bind (·.dst) = some slot := by rw [← Array.getElem?_toList]; exact hslot
      have go : ∀ (b : Bool) (p : PV), σ.get slot = .sv (.one (.bool b)) → b = want → opK X.E run (σ.put (some slot) (.sv (.one (.bool b)))) o K = some r → ∃ σ', K σ' = some r ∧ StepSound X ops i σ σ' := by
        intro b p hb hbw h
        rw [opK_bind] at h
        simp only [Option.bind_eq_some_iff] at h
        obtain ⟨σ', h1, h2⟩ := h
        refine ⟨σ', h2, fun A a w hinv hdef next Q hn => ?_⟩
        have hv := hinv.slot slot
        rw [hb] at hv
        have hy := yielded_bool hslot' hv
        unfold wpOp
        simp only [hi, Region.wanted, hg, hy, hbw, beq_self_eq_true, if_true]
        exact .inl (op_sound hT hR hd h1 A a w (hinv.reput (d := slot) (by exact hv)) hdef next Q hn)
      have skip : ∀ (σ1 : St), (∀ (A : Fr) (a : Act) (w : World), Inv X A σ a.tmps w → Inv X A σ1 a.tmps w ∧ (yielded ops a.tmps j == some want) = false) → K (σ1.put o.dst .void) = some r → ∃ σ', K σ' = some r ∧ StepSound X ops i σ σ' := by
        intro σ1 hs h
        refine ⟨_, h, fun A a w hinv hdef next Q hn => ?_⟩
        obtain ⟨h1, h2⟩ := hs A a w hinv
        unfold wpOp
        simp only [hi, Region.wanted, hg, h2, if_false, Bool.false_eq_true]
        exact hn A _ w (h1.put hd fun _ => rfl) (by rw [put_defers]; exact hdef)
      unfold guardK at h
      split at h
      · rename_i b hb
        have sk : ∀ (b : Bool), σ.get slot = .sv (.one (.bool b)) → b ≠ want → ∀ (A : Fr) (a : Act) (w : World), Inv X A σ a.tmps w → Inv X A (σ.put (some slot) (.sv (.one (.bool b)))) a.tmps w ∧ (yielded ops a.tmps j == some want) = false := by
          intro b hb hbw A a w hinv
          have hv := hinv.slot slot
          rw [hb] at hv
          refine ⟨hinv.reput (d := slot) (by exact hv), ?_⟩
          rw [yielded_bool hslot' hv]
          cases b <;> cases want <;> simp_all
        cases b <;> cases want <;> simp only [cond_true, cond_false] at h
        · exact go false .undef hb rfl h
        · exact skip _ (sk false hb (by simp)) h
        · exact skip _ (sk true hb (by simp)) h
        · exact go true .undef hb rfl h
      · rename_i hv
        refine skip σ (fun A a w hinv => ⟨hinv, ?_⟩) h
        have h1 := hinv.slot slot
        rw [hv] at h1
        rw [yielded_void hslot' h1]; rfl
      · cases h

/-- Operations, one after the other. -/
theorem ops_sound {ops : Array Oper} {R : Type} {K : St → Option R} {r : R} (hT : TabOK X.P X.E) (hR : RunOK X.P X.E run) (hd : ∀ o ∈ ops.toList, ∀ d, o.dst = some d → d < X.n) :
    ∀ (l : List Oper) (i : Nat) (σ : St), ops.toList.drop i = l → opsK X.E run ops.toList l σ K = some r →
      ∃ σ', K σ' = some r ∧ ∀ (A : Fr) (a : Act) (w : World), Inv X A σ a.tmps w → a.defers = [] → ∀ (Q : Exit → Act → World → Prop), (∀ A' a' w', Inv X A' σ' a'.tmps w' → a'.defers = [] → Q .normal a' w') →
        wpOps X.P ops Q (List.range' i l.length) a w
  | [], i, σ, hl, h => ⟨σ, h, fun A a w hi hdef Q hq => hq A a w hi hdef⟩
  | o :: l, i, σ, hl, h => by
    simp only [opsK] at h
    have hio : ops[i]? = some o := by
      have := congrArg (·[0]?) hl
      simp only [List.getElem?_drop, List.getElem?_cons_zero, Nat.add_zero] at this
      rw [← Array.getElem?_toList]; exact this
    have hmem : o ∈ ops.toList := List.mem_of_getElem? (by rw [← Array.getElem?_toList] at hio; exact hio)
    obtain ⟨σ1, h1, h2⟩ := step_sound hT hR hio (hd o hmem) h
    have hl' : ops.toList.drop (i + 1) = l := by rw [← List.drop_drop, hl]; rfl
    obtain ⟨σ2, h3, h4⟩ := ops_sound hT hR hd l (i + 1) σ1 hl' h1
    refine ⟨σ2, h3, fun A a w hi hdef Q hq => ?_⟩
    rw [List.length_cons, List.range'_succ, wpOps_cons]
    exact h2 A a w hi hdef _ Q fun A' a' w' hi' hd' => h4 A' a' w' hi' hd' Q hq

/-! ### code -/
def Ex.out : Ex → Exit
  | .normal => .normal
  | .exit id => .exit id
  | .goto l => .goto l
  | .ret => .ret

def CodeSound (X : Ctx) (c : Code) (σ : St) (e : Ex) (σ' : St) : Prop :=
  ∀ (A : Fr) (a : Act) (w : World) (Q : Exit → Act → World → Prop), Inv X A σ a.tmps w → a.defers = [] → (∀ A' a' w', Inv X A' σ' a'.tmps w' → a'.defers = [] → Q e.out a' w') → c.wp X.P Q a w

def LoopAt (P : Program) (c : Code) (Q : Exit → Act → World → Prop) (a : Act) (w : World) : Prop :=
  ∀ (b : Frame) (k : List Item) (cs : List Frame), ∃ e a' w', Q e a' w' ∧ Arrives P (lone (b.at a (.code c :: .inLoop c :: k)) cs w) b k cs e a' w'
theorem LoopAt.wp {P : Program} {c : Code} {Q : Exit → Act → World → Prop} {a : Act} {w : World} (h : LoopAt P c Q a w) : (Code.loop c).wp P Q a w := fun b k cs => by
  obtain ⟨e, a', w', hq, harr⟩ := h b k cs
  exact ⟨e, a', w', hq, .of_steps (.one step_loop) harr⟩
theorem LoopAt.pass {P : Program} {c : Code} {Q : Exit → Act → World → Prop} {a : Act} {w : World} (h : c.wp P (Exit.then (LoopAt P c Q) Q) a w) : LoopAt P c Q a w := fun b k cs => by
  obtain ⟨e, a₁, w₁, hq, harr⟩ := h b (.inLoop c :: k) cs
  cases e with
  | normal =>
    obtain ⟨e₂, a₂, w₂, hq₂, harr₂⟩ := hq b k cs
    exact ⟨e₂, a₂, w₂, hq₂, .of_steps (Steps.trans harr (.one step_inLoop)) harr₂⟩
  | exit id => exact ⟨_, a₁, w₁, hq, .pass (x := .inLoop c) rfl (fun _ _ => .inl (by simp)) harr⟩
  | goto l => exact ⟨_, a₁, w₁, hq, .pass (x := .inLoop c) rfl (fun _ _ => .inl (by simp)) harr⟩
  | ret => exact ⟨_, a₁, w₁, hq, .pass (x := .inLoop c) rfl (fun _ _ => .inl (by simp)) harr⟩
  | panic ch => exact ⟨_, a₁, w₁, hq, .pass (x := .inLoop c) rfl (fun _ _ => .inl (by simp)) harr⟩
  | outgrown => exact ⟨_, a₁, w₁, hq, .pass (x := .inLoop c) rfl (fun _ _ => .inl (by simp)) harr⟩

def ScopeAt (P : Program) (c rest : Code) (Q : Exit → Act → World → Prop) (a : Act) (w : World) : Prop :=
  ∀ (b : Frame) (k : List Item) (cs : List Frame), ∃ e a' w', Q e a' w' ∧ Arrives P (lone (b.at a (.code rest :: .inScope c :: k)) cs w) b k cs e a' w'
/-- As Q; by a goto to the label l: J; by a goto to another label of the code: no way out. -/
def Exit.back (c : Code) (l : Nat) (J : Act → World → Prop) (Q : Exit → Act → World → Prop) : Exit → Act → World → Prop
  | .goto l', a, w => (l' = l ∧ J a w) ∨ (findLabel c l' = none ∧ Q (.goto l') a w)
  | e, a, w => Q e a w
theorem ScopeAt.pass {P : Program} {c rest rest' : Code} {l : Nat} (hl : findLabel c l = some rest') {Q : Exit → Act → World → Prop} {a : Act} {w : World} (h : rest.wp P (Exit.back c l (ScopeAt P c rest' Q) Q) a w) : ScopeAt P c rest Q a w := fun b k cs => by
  obtain ⟨e, a₁, w₁, hq, harr⟩ := h b (.inScope c :: k) cs
  cases e with
  | normal => exact ⟨.normal, a₁, w₁, hq, Steps.trans harr (.one step_inScope)⟩
  | exit id => exact ⟨.exit id, a₁, w₁, hq, fun k' hk => harr k' (by simp [exitTo, hk])⟩
  | goto l' =>
    rcases hq with ⟨rfl, hJ⟩ | ⟨hn, hq⟩
    · obtain ⟨e₂, a₂, w₂, hq₂, harr₂⟩ := hJ b k cs
      exact ⟨e₂, a₂, w₂, hq₂, .of_steps (harr _ (by simp [gotoIn, hl])) harr₂⟩
    · exact ⟨.goto l', a₁, w₁, hq, fun k' hk => harr k' (by simp [gotoIn, hn, hk])⟩
  | ret => exact ⟨_, a₁, w₁, hq, harr⟩
  | panic ch => exact ⟨_, a₁, w₁, hq, harr⟩
  | outgrown => exact ⟨_, a₁, w₁, hq, harr⟩
theorem ScopeAt.wp {P : Program} {c : Code} {Q : Exit → Act → World → Prop} {a : Act} {w : World} (h : ScopeAt P c c Q a w) : (Code.scope c).wp P Q a w := fun b k cs => by
  obtain ⟨e, a', w', hq, harr⟩ := h b k cs
  exact ⟨e, a', w', hq, .of_steps (.one step_scope) harr⟩
/-- A scope through which the run goes without a goto to its own labels. -/
theorem ScopeAt.straight {P : Program} {c : Code} {Q : Exit → Act → World → Prop} {a : Act} {w : World} (h : c.wp P (fun e a w => match e with | .goto l' => findLabel c l' = none ∧ Q (.goto l') a w | e => Q e a w) a w) : (Code.scope c).wp P Q a w := fun b k cs => by
  obtain ⟨e, a₁, w₁, hq, harr⟩ := h b (.inScope c :: k) cs
  cases e with
  | normal => exact ⟨.normal, a₁, w₁, hq, .head step_scope (Steps.trans harr (.one step_inScope))⟩
  | exit id => exact ⟨.exit id, a₁, w₁, hq, fun k' hk => .head step_scope (harr k' (by simp [exitTo, hk]))⟩
  | goto l' => exact ⟨.goto l', a₁, w₁, hq.2, fun k' hk => .head step_scope (harr k' (by simp [gotoIn, hq.1, hk]))⟩
  | ret => exact ⟨_, a₁, w₁, hq, .of_steps (.one step_scope) harr⟩
  | panic ch => exact ⟨_, a₁, w₁, hq, .of_steps (.one step_scope) harr⟩
  | outgrown => exact ⟨_, a₁, w₁, hq, .of_steps (.one step_scope) harr⟩

theorem labels_some : ∀ {c : Code} {l : Nat}, l ∈ labelsOf c → ∃ rest, findLabel c l = some rest
  | .seq a b, l, h => by
    simp only [labelsOf, List.mem_append] at h
    simp only [findLabel]
    cases ha : findLabel a l with
    | some rest => exact ⟨_, rfl⟩
    | none =>
      rcases h with h | h
      · obtain ⟨rest, hr⟩ := labels_some h; rw [hr] at ha; cases ha
      · exact labels_some h
  | .label l', l, h => by
    simp only [labelsOf, List.mem_singleton] at h
    subst h
    exact ⟨.skip, by simp [findLabel]⟩
  | .skip, l, h | .region .., l, h | .cond .., l, h | .block .., l, h | .loop .., l, h | .scope .., l, h | .exit .., l, h | .goto .., l, h | .ret, l, h | .rangeFunc .., l, h | .refuse .., l, h => by simp [labelsOf] at h
theorem labels_none : ∀ {c : Code} {l : Nat}, l ∉ labelsOf c → findLabel c l = none
  | .seq a b, l, h => by
    simp only [labelsOf, List.mem_append, not_or] at h
    simp only [findLabel, labels_none h.1, labels_none h.2]
  | .label l', l, h => by
    simp only [labelsOf, List.mem_singleton] at h
    simp [findLabel, Ne.symm h]
  | .skip, l, h | .region .., l, h | .cond .., l, h | .block .., l, h | .loop .., l, h | .scope .., l, h | .exit .., l, h | .goto .., l, h | .ret, l, h | .rangeFunc .., l, h | .refuse .., l, h => by simp [findLabel]

theorem pickEx_at {R : Type} {i : Nat} {K : Ex → Option R} {r : R} : ∀ {l : List Ex} {j : Nat} {e : Ex}, idxEx e l j = some i → pickEx i K l j = some r → K e = some r
  | [], j, e, h1, h2 => by simp [idxEx] at h1
  | [x], j, e, h1, h2 => by
    simp only [idxEx] at h1
    split at h1
    · rename_i hx; subst hx; exact h2
    · cases h1
  | x :: x' :: l, j, e, h1, h2 => by
    rw [idxEx] at h1
    simp only [pickEx] at h2
    split at h1
    · rename_i hx
      cases h1
      rw [Nat.beq_refl] at h2
      subst hx; exact h2
    · have hge : ∀ {l : List Ex} {j i : Nat}, idxEx e l j = some i → j ≤ i := by
        intro l
        induction l with
        | nil => intro j i h; simp [idxEx] at h
        | cons y l ih =>
          intro j i h
          rw [idxEx] at h
          split at h
          · cases h; exact Nat.le_refl _
          · have := ih h; omega
      have := hge h1
      have hne : Nat.beq i j = false := by
        cases hb : Nat.beq i j with
        | false => rfl
        | true => have := Nat.eq_of_beq_eq_true hb; omega
      rw [hne] at h2
      exact pickEx_at h1 h2

end
end Go.Sv
