/- Operations that the model may run in several orders: the proof. -/
import Derived.Test.YtnooginekcnflaaEvU
namespace Go.Sv
open Go
set_option linter.unusedVariables false
set_option linter.unusedSimpArgs false

section
variable {X : Ctx} {run : Runs X.E} {ops : Array Oper}

/-- What is known of one of the operations that may change places. -/
structure Fact (X : Ctx) (ops : Array Oper) (bs ds nn : List Nat) (σ0 : St) (recs : List Rec) (q : Nat) : Prop where
  ex : ∃ (o : Oper) (f : Rec) (σq : St), ops[q]? = some o ∧ recs[q]? = some f ∧ f.d = o.dst.getD 0 ∧ Rep σ0 recs (· < q) σq ∧
    (∀ t ∈ looksOf ops.toList o, depOK bs ds q t = true) ∧ (∀ s ∈ f.pv.refs, refOK bs ds q s = true) ∧ (∀ v, f.bx = some v → f.d ∈ nn ∧ ∀ c ∈ v.2, c.refs = []) ∧
    ∀ τ : St, (∀ t ∈ looksOf ops.toList o, τ.get t = σq.get t) → (∀ d', d' ∉ nn → getB τ.b d' = getB σ0.b d') → Free f.d τ → StepSound X ops q τ (τ.addR f)

theorem zeroPC_refs : ∀ (u : Ty), ∀ c ∈ zeroPC u, c.refs = []
  | .bool, c, hc => by rw [List.mem_singleton.1 hc]; rfl
  | .int _, c, hc => by rw [List.mem_singleton.1 hc]; rfl
  | .str, c, hc => by rw [List.mem_singleton.1 hc]; rfl
  | .fn, c, hc => by rw [List.mem_singleton.1 hc]; rfl
  | .slice _ _, c, hc => by rw [List.mem_singleton.1 hc]; rfl
  | .pair a b, c, hc => by
    rcases List.mem_append.1 hc with hc | hc
    · exact zeroPC_refs a c hc
    · exact zeroPC_refs b c hc

theorem Free.put {d : Nat} {τ : St} (h : Free d τ) {slot : Nat} {p : PV} (hp : d ∉ p.refs) : Free d (τ.put (some slot) p) :=
  ⟨fun q hq => by
    rcases List.mem_cons.1 hq with rfl | hq
    · exact hp
    · exact h.ent q hq, h.box⟩

theorem eqv_reput {τ : St} {slot d : Nat} {p pv : PV} (h : τ.get slot = p) (hp : p ≠ .undef) (bx : Option (TypeId × List PC)) : Eqv ((τ.put (some slot) p).addR ⟨d, pv, bx⟩) (τ.addR ⟨d, pv, bx⟩) := by
  refine ⟨fun t => ?_, fun t => by cases bx <;> rfl, fun q hq => ?_⟩
  · show getS _ t = getS _ t
    simp only [St.addR, St.put, getS_cons]
    by_cases h1 : t = d
    · simp [h1]
    · simp only [h1, if_false]
      by_cases h2 : t = slot
      · subst h2; simp only [if_true]; exact h.symm
      · simp [h2]
  · rcases List.mem_cons.1 hq with rfl | hq
    · exact List.mem_cons_self ..
    · exact List.mem_cons_of_mem _ (List.mem_cons_of_mem _ hq)

theorem ev_agree {σ τ : St} {o : Oper} {all : List Oper} (h : ∀ t ∈ looksOf all o, τ.get t = σ.get t) : ∀ x ∈ o.op.operands.toList, τ.ev x = σ.ev x := fun x hx => by
  cases x with
  | tmp t => exact h t (List.mem_append_left _ (List.mem_filterMap.2 ⟨.tmp t, hx, rfl⟩))
  | const v =>
    unfold St.ev
    split <;> first | rfl | (rename_i e; cases e; done) | (rename_i e; cases e; rfl)
  | _ => rfl

theorem freeK_sound (hT : TabOK X.P X.E) (hR : RunOK X.P X.E run) (hd : ∀ o ∈ ops.toList, ∀ d, o.dst = some d → d < X.n) {bs ds nn : List Nat} {σ0 : St} (hds : nodup ds = true) {R : Type} {K : St → List (Nat × (TypeId × List PC)) → Option R} {r : R} :
    ∀ (l : List Oper) (i : Nat) (σ : St) (nb : List (Nat × (TypeId × List PC))) (pre : List Rec), (∀ q o, l[q]? = some o → ops[i + q]? = some o ∧ ds[i + q]? = some (o.dst.getD 0)) → pre.length = i → (∀ (q : Nat) (f : Rec), pre[q]? = some f → ds[q]? = some f.d) →
      Rep σ0 pre (fun _ => True) σ → σ.b = σ0.b → RepB σ0.b pre (fun _ => True) (nb ++ σ0.b) → freeK X.E run ops.toList bs ds nn i l σ nb K = some r →
      ∃ (recs : List Rec) (σ' : St) (nb' : List (Nat × (TypeId × List PC))), recs.length = i + l.length ∧ (∀ (q : Nat) (f : Rec), pre[q]? = some f → recs[q]? = some f) ∧ (∀ (q : Nat) (f : Rec), recs[q]? = some f → ds[q]? = some f.d) ∧ K σ' nb' = some r ∧ Rep σ0 recs (fun _ => True) σ' ∧ σ'.b = σ0.b ∧ RepB σ0.b recs (fun _ => True) (nb' ++ σ0.b) ∧
        ∀ q, i ≤ q → q < i + l.length → Fact X ops bs ds nn σ0 recs q
  | [], i, σ, nb, pre, hl, hpl, hpd, hrep, hb, hrb, h => ⟨pre, σ, nb, by simp [hpl], fun _ _ h => h, hpd, h, hrep, hb, hrb, fun q h1 h2 => by simp at h2; omega⟩
  | o :: l, i, σ, nb, pre, hl, hpl, hpd, hrep, hb, hrb, h => by
    unfold freeK at h
    split at h
    · cases h
    rename_i d hdst
    obtain ⟨hoi, hdi⟩ := hl 0 o rfl
    rw [Nat.add_zero] at hoi hdi
    rw [hdst] at hdi
    simp only [Option.getD_some] at hdi
    cases hlooks : (looksOf ops.toList o).all (depOK bs ds i) with
    | false => simp [hlooks] at h
    | true =>
      simp only [hlooks, cond_true] at h
      have hlk : ∀ t ∈ looksOf ops.toList o, depOK bs ds i t = true := List.all_eq_true.1 hlooks
      have hdo : ∀ d, o.dst = some d → d < X.n := hd o (List.mem_of_getElem? (by rw [Array.getElem?_toList]; exact hoi))
      -- the step that is common
      have next : ∀ (σ1 : St) (pv : PV) (bx : Option (TypeId × List PC)) (nb1 : List (Nat × (TypeId × List PC))), Eqv σ1 σ → (∀ p ∈ σ1.s, p ∈ σ.s) → σ1.b = σ.b → (∀ v, bx = some v → d ∈ nn ∧ ∀ c ∈ v.2, c.refs = []) →
          nb1 = (match bx with | some v => (d, v) :: nb | none => nb) →
          (∀ τ : St, (∀ t ∈ looksOf ops.toList o, τ.get t = σ.get t) → (∀ d', d' ∉ nn → getB τ.b d' = getB σ0.b d') → Free d τ → StepSound X ops i τ (τ.addR ⟨d, pv, bx⟩)) →
          (bif pv.refs.all (refOK bs ds i) then freeK X.E run ops.toList bs ds nn (i + 1) l (σ1.put (some d) pv) nb1 K else none) = some r →
          ∃ (recs : List Rec) (σ' : St) (nb' : List (Nat × (TypeId × List PC))), recs.length = i + (l.length + 1) ∧ (∀ (q : Nat) (f : Rec), pre[q]? = some f → recs[q]? = some f) ∧ (∀ (q : Nat) (f : Rec), recs[q]? = some f → ds[q]? = some f.d) ∧ K σ' nb' = some r ∧ Rep σ0 recs (fun _ => True) σ' ∧ σ'.b = σ0.b ∧ RepB σ0.b recs (fun _ => True) (nb' ++ σ0.b) ∧
            ∀ q, i ≤ q → q < i + (l.length + 1) → Fact X ops bs ds nn σ0 recs q := by
        intro σ1 pv bx nb1 heq hent hb1 hbx hnb hstep h
        cases hrefs : pv.refs.all (refOK bs ds i) with
        | false => simp [hrefs] at h
        | true =>
          simp only [hrefs, cond_true] at h
          have hget : ∀ (q : Nat) (f : Rec), (pre ++ [⟨d, pv, bx⟩])[q]? = some f → (q < i ∧ pre[q]? = some f) ∨ (q = i ∧ f = ⟨d, pv, bx⟩) := fun q f hq => by
            by_cases h1 : q < i
            · rw [List.getElem?_append_left (by omega)] at hq; exact .inl ⟨h1, hq⟩
            · rw [List.getElem?_append_right (by omega), hpl] at hq
              have hlt := (List.getElem?_eq_some_iff.1 hq).1
              simp only [List.length_singleton] at hlt
              have : q = i := by omega
              subst this
              simp at hq
              exact .inr ⟨rfl, hq.symm⟩
          have hnew : (pre ++ [(⟨d, pv, bx⟩ : Rec)])[i]? = some ⟨d, pv, bx⟩ := by rw [List.getElem?_append_right (by omega), hpl]; simp
          have hold : ∀ (q : Nat) (f : Rec), pre[q]? = some f → (pre ++ [(⟨d, pv, bx⟩ : Rec)])[q]? = some f := fun q f hq => by
            rw [List.getElem?_append_left (List.getElem?_eq_some_iff.1 hq).1]; exact hq
          have hpd' : ∀ (q : Nat) (f : Rec), (pre ++ [(⟨d, pv, bx⟩ : Rec)])[q]? = some f → ds[q]? = some f.d := fun q f hq => by
            rcases hget q f hq with ⟨_, h1⟩ | ⟨rfl, rfl⟩
            · exact hpd q f h1
            · exact hdi
          have hne : ∀ (q : Nat) (f : Rec), pre[q]? = some f → f.d ≠ d := fun q f hq e => by
            have h1 := hpd q f hq
            rw [e] at h1
            have := nodup_idx hds h1 hdi
            have h2 := (List.getElem?_eq_some_iff.1 hq).1
            omega
          have hrep' : Rep σ0 (pre ++ [⟨d, pv, bx⟩]) (fun _ => True) (σ1.put (some d) pv) := by
            refine ⟨fun t ht => ?_, fun q f hq _ => ?_, fun p hp => ?_, fun p hp => ?_, fun q f hq _ => ?_⟩
            · rw [St.get_put, if_neg (fun e => ht i _ hnew trivial e.symm), heq.get]
              exact hrep.get t fun q f hq _ => ht q f (hold q f hq) trivial
            · rw [St.get_put]
              rcases hget q f hq with ⟨_, h1⟩ | ⟨rfl, rfl⟩
              · rw [if_neg (hne q f h1), heq.get]; exact hrep.got q f h1 trivial
              · simp
            · rcases List.mem_cons.1 hp with rfl | hp
              · exact .inr ⟨i, _, hnew, trivial, rfl⟩
              · rcases hrep.ent p (hent p hp) with h1 | ⟨q, f, h1, _, h2⟩
                · exact .inl h1
                · exact .inr ⟨q, f, hold q f h1, trivial, h2⟩
            · exact List.mem_cons_of_mem _ (heq.ent p (hrep.ent0 p hp))
            · rcases hget q f hq with ⟨_, h1⟩ | ⟨rfl, rfl⟩
              · exact List.mem_cons_of_mem _ (heq.ent _ (hrep.ent1 q f h1 trivial))
              · exact List.mem_cons_self ..
          have hrb' : RepB σ0.b (pre ++ [⟨d, pv, bx⟩]) (fun _ => True) (nb1 ++ σ0.b) := by
            subst hnb
            cases bx with
            | none =>
              refine ⟨fun t ht => hrb.get t fun q f hq _ hf => ht q f (hold q f hq) trivial hf, fun q f v hq _ hv => ?_, fun p hp => ?_⟩
              · rcases hget q f hq with ⟨_, h1⟩ | ⟨rfl, rfl⟩
                · exact hrb.got q f v h1 trivial hv
                · cases hv
              · rcases hrb.ent p hp with h1 | ⟨q, f, v, h1, _, h2⟩
                · exact .inl h1
                · exact .inr ⟨q, f, v, hold q f h1, trivial, h2⟩
            | some v0 =>
              refine ⟨fun t ht => ?_, fun q f v hq _ hv => ?_, fun p hp => ?_⟩
              · rw [List.cons_append, getB_cons, if_neg (fun e => ht i _ hnew trivial (by simp) e.symm)]
                exact hrb.get t fun q f hq _ hf => ht q f (hold q f hq) trivial hf
              · rw [List.cons_append, getB_cons]
                rcases hget q f hq with ⟨_, h1⟩ | ⟨rfl, rfl⟩
                · rw [if_neg (hne q f h1)]; exact hrb.got q f v h1 trivial hv
                · cases hv; simp
              · rw [List.cons_append] at hp
                rcases List.mem_cons.1 hp with rfl | hp
                · exact .inr ⟨i, _, v0, hnew, trivial, rfl, rfl⟩
                · rcases hrb.ent p hp with h1 | ⟨q, f, v, h1, _, h2⟩
                  · exact .inl h1
                  · exact .inr ⟨q, f, v, hold q f h1, trivial, h2⟩
          obtain ⟨recs, σ', nb', h1, h2, h3, h4, h5, h6, h7, h8⟩ := freeK_sound hT hR hd hds l (i + 1) (σ1.put (some d) pv) nb1 (pre ++ [⟨d, pv, bx⟩]) (fun q o' ho' => by
              have := hl (q + 1) o' (by simpa using ho')
              rw [show i + 1 + q = i + (q + 1) by omega]; exact this) (by simp [hpl]) hpd' hrep' (by show σ1.b = _; rw [hb1, hb]) hrb' h
          refine ⟨recs, σ', nb', by omega, fun q f hq => h2 q f (hold q f hq), h3, h4, h5, h6, h7, fun q hq1 hq2 => ?_⟩
          by_cases hqi : q = i
          · subst hqi
            refine ⟨o, ⟨d, pv, bx⟩, σ, hoi, h2 _ _ hnew, by rw [hdst]; rfl, ?_, hlk, fun s hs => List.all_eq_true.1 hrefs s hs, hbx, hstep⟩
            -- the state that stands before it
            have hpre : ∀ (q' : Nat) (f : Rec), q' < q → recs[q']? = some f → pre[q']? = some f := fun q' f hq' hf => by
              have hlt : q' < pre.length := by omega
              have := h2 q' _ (hold q' _ (List.getElem?_eq_getElem hlt))
              rw [this] at hf
              cases hf
              exact List.getElem?_eq_getElem hlt
            refine ⟨fun t ht => hrep.get t fun q' f hq' _ => ht q' f (h2 q' f (hold q' f hq')) (by have := (List.getElem?_eq_some_iff.1 hq').1; omega), fun q' f hq' hlt => hrep.got q' f (hpre q' f hlt hq') trivial, fun p hp => ?_, hrep.ent0, fun q' f hq' hlt => hrep.ent1 q' f (hpre q' f hlt hq') trivial⟩
            rcases hrep.ent p hp with k1 | ⟨q', f, k1, _, k2⟩
            · exact .inl k1
            · exact .inr ⟨q', f, h2 q' f (hold q' f k1), by have := (List.getElem?_eq_some_iff.1 k1).1; omega, k2⟩
          · exact h8 q (by omega) (by omega)
      -- an operation that is wanted
      have go : ∀ (σ1 : St) (gd : St → St), Eqv σ1 σ → (∀ p ∈ σ1.s, p ∈ σ.s) → σ1.b = σ.b →
          (∀ τ : St, (∀ t ∈ looksOf ops.toList o, τ.get t = σ.get t) → (∀ t ∈ looksOf ops.toList o, (gd τ).get t = σ1.get t) ∧ (gd τ).b = τ.b ∧ (∀ d, Free d τ → Free d (gd τ)) ∧ (∀ (d : Nat) pv bx, Eqv ((gd τ).addR ⟨d, pv, bx⟩) (τ.addR ⟨d, pv, bx⟩)) ∧
            ∀ τ'', opK X.E run (gd τ) o some = some τ'' → StepSound X ops i τ τ'') →
          (match o.op with
            | .alloc t => (match X.E.ti t with
              | some ti => (match ti.ty with
                | some u => bif zeroable u && mem nn d then (bif (PV.sv (.one (.box d 0))).refs.all (refOK bs ds i) then freeK X.E run ops.toList bs ds nn (i + 1) l (σ1.put (some d) (.sv (.one (.box d 0)))) ((d, (t, zeroPC u)) :: nb) K else none) else none
                | none => none)
              | none => none)
            | _ => bif okV X.E σ1 o d && (o.op.operands.toList.all fun x => (σ1.ev x).refs.all fun s => !mem nn s) then opK X.E run σ1 o fun σ' => (bif (σ'.get d).refs.all (refOK bs ds i) then freeK X.E run ops.toList bs ds nn (i + 1) l (σ1.put (some d) (σ'.get d)) nb K else none) else none) = some r →
          ∃ (recs : List Rec) (σ' : St) (nb' : List (Nat × (TypeId × List PC))), recs.length = i + (l.length + 1) ∧ (∀ (q : Nat) (f : Rec), pre[q]? = some f → recs[q]? = some f) ∧ (∀ (q : Nat) (f : Rec), recs[q]? = some f → ds[q]? = some f.d) ∧ K σ' nb' = some r ∧ Rep σ0 recs (fun _ => True) σ' ∧ σ'.b = σ0.b ∧ RepB σ0.b recs (fun _ => True) (nb' ++ σ0.b) ∧
            ∀ q, i ≤ q → q < i + (l.length + 1) → Fact X ops bs ds nn σ0 recs q := by
        intro σ1 gd heq hent hb1 hgd h
        have plain : (bif okV X.E σ1 o d && (o.op.operands.toList.all fun x => (σ1.ev x).refs.all fun s => !mem nn s) then opK X.E run σ1 o fun σ' => (bif (σ'.get d).refs.all (refOK bs ds i) then freeK X.E run ops.toList bs ds nn (i + 1) l (σ1.put (some d) (σ'.get d)) nb K else none) else none) = some r →
            ∃ (recs : List Rec) (σ' : St) (nb' : List (Nat × (TypeId × List PC))), recs.length = i + (l.length + 1) ∧ (∀ (q : Nat) (f : Rec), pre[q]? = some f → recs[q]? = some f) ∧ (∀ (q : Nat) (f : Rec), recs[q]? = some f → ds[q]? = some f.d) ∧ K σ' nb' = some r ∧ Rep σ0 recs (fun _ => True) σ' ∧ σ'.b = σ0.b ∧ RepB σ0.b recs (fun _ => True) (nb' ++ σ0.b) ∧
              ∀ q, i ≤ q → q < i + (l.length + 1) → Fact X ops bs ds nn σ0 recs q := fun h => by
          cases hcond : (okV X.E σ1 o d && (o.op.operands.toList.all fun x => (σ1.ev x).refs.all fun s => !mem nn s)) with
          | false => rw [hcond] at h; cases h
          | true =>
            simp only [hcond, cond_true] at h
            rw [opK_bind] at h
            simp only [Option.bind_eq_some_iff] at h
            obtain ⟨σ', hop, h⟩ := h
            simp only [Bool.and_eq_true, List.all_eq_true, Bool.not_eq_true'] at hcond
            obtain ⟨hok, hnn⟩ := hcond
            refine next σ1 (σ'.get d) none nb heq hent hb1 (fun v hv => by cases hv) rfl (fun τ hτ hτb hfree => ?_) h
            obtain ⟨hg1, hg2, hg3, hg4, hg5⟩ := hgd τ hτ
            obtain ⟨lk, hlk2, hloc⟩ := opK_local (E := X.E) (run := run) (σ := σ1) (τ := gd τ) hdst hok (ev_agree hg1) (fun x hx s hs => by
              have hsn : s ∉ nn := fun hm => by
                have := hnn x hx s hs
                rw [mem_iff.2 hm] at this; cases this
              rw [hg2, hb1, hb]; exact hτb s hsn)
            rw [opK_bind (K := fun σ' => some (σ'.get d)), hop] at hloc
            simp only [Option.bind_some] at hloc
            rw [(hg3 d hfree).kill hlk2] at hloc
            have hs := hg5 _ hloc
            intro A a w hi hdef nx Q hn
            exact hs A a w hi hdef nx Q fun A' a' w' hi' hd' => hn A' a' w' (hi'.eqv (hg4 d (σ'.get d) none)) hd'
        split at h
        · rename_i t ho
          split at h
          · rename_i ti hti
            split at h
            · rename_i u hu
              cases hcond : (zeroable u && mem nn d) with
              | false => simp [hcond] at h
              | true =>
                simp only [hcond, cond_true] at h
                simp only [Bool.and_eq_true] at hcond
                refine next σ1 _ (some (t, zeroPC u)) _ heq hent hb1 (fun v hv => by cases hv; exact ⟨mem_iff.1 hcond.2, zeroPC_refs u⟩) rfl (fun τ hτ hτb hfree => ?_) h
                obtain ⟨hg1, hg2, hg3, hg4, hg5⟩ := hgd τ hτ
                have hop : opK X.E run (gd τ) o some = some ((gd τ).addR ⟨d, .sv (.one (.box d 0)), some (t, zeroPC u)⟩) := by
                  simp only [opK, ho, hti, hdst, hu, hcond.1, cond_true]
                  rw [(hg3 d hfree).newBox fun c hc => by rw [zeroPC_refs u c hc]; simp]
                  rfl
                have hs := hg5 _ hop
                intro A a w hi hdef nx Q hn
                exact hs A a w hi hdef nx Q fun A' a' w' hi' hd' => hn A' a' w' (hi'.eqv (hg4 d _ _)) hd'
            · cases h
          · cases h
        · exact plain h
      split at h
      · rename_i hg
        refine go σ id ⟨fun _ => rfl, fun _ => rfl, fun _ h => h⟩ (fun _ h => h) rfl (fun τ hτ => ⟨hτ, rfl, fun _ h => h, fun _ _ _ => ⟨fun _ => rfl, fun _ => rfl, fun _ h => h⟩, fun τ'' hop => ?_⟩) h
        obtain ⟨σ', h1, h2⟩ := step_sound (K := some) hT hR hoi hdo (r := τ'') (σ := τ) (by unfold opGK; rw [hg]; exact hop)
        cases h1; exact h2
      · rename_i j want hg
        split at h
        · cases h
        · rename_i slot hslot
          have hsl : slot ∈ looksOf ops.toList o := List.mem_append_right _ (by rw [hg]; simp only [hslot]; simp)
          have goB : ∀ b : Bool, σ.get slot = .sv (.one (.bool b)) → b = want → ∀ τ : St, (∀ t ∈ looksOf ops.toList o, τ.get t = σ.get t) →
              (∀ t ∈ looksOf ops.toList o, (τ.put (some slot) (.sv (.one (.bool b)))).get t = (σ.put (some slot) (.sv (.one (.bool b)))).get t) ∧ (τ.put (some slot) (.sv (.one (.bool b)))).b = τ.b ∧ (∀ d, Free d τ → Free d (τ.put (some slot) (.sv (.one (.bool b))))) ∧
              (∀ (d : Nat) pv bx, Eqv ((τ.put (some slot) (.sv (.one (.bool b)))).addR ⟨d, pv, bx⟩) (τ.addR ⟨d, pv, bx⟩)) ∧ ∀ τ'', opK X.E run (τ.put (some slot) (.sv (.one (.bool b)))) o some = some τ'' → StepSound X ops i τ τ'' := fun b hσ hbw τ hτ => by
            have hτs : τ.get slot = .sv (.one (.bool b)) := (hτ slot hsl).trans hσ
            refine ⟨fun t ht => ?_, rfl, fun d hf => hf.put (by simp [PV.refs, SV.refs, SV.cells, PC.refs]), fun d pv bx => eqv_reput hτs (by simp) bx, fun τ'' hop => ?_⟩
            · rw [St.get_put, St.get_put]
              split
              · rfl
              · exact hτ t ht
            · obtain ⟨σ', h1, h2⟩ := step_sound (K := some) hT hR hoi hdo (r := τ'') (σ := τ) (by
                unfold opGK
                rw [hg]
                simp only [hslot, guardK, hτs]
                subst hbw
                cases b <;> exact hop)
              cases h1; exact h2
          have eqB : ∀ b : Bool, σ.get slot = .sv (.one (.bool b)) → Eqv (σ.put (some slot) (.sv (.one (.bool b)))) σ ∧ ∀ p ∈ (σ.put (some slot) (.sv (.one (.bool b)))).s, p ∈ σ.s := fun b hσ => by
            refine ⟨⟨fun t => ?_, fun _ => rfl, fun p hp => List.mem_cons_of_mem _ hp⟩, fun p hp => ?_⟩
            · rw [St.get_put]
              split
              · rename_i e; rw [e]; exact hσ.symm
              · rfl
            · rcases List.mem_cons.1 hp with rfl | hp
              · rcases getS_mem σ.s slot with h1 | h1
                · rw [show getS σ.s slot = σ.get slot from rfl, hσ] at h1; cases h1
                · rw [show getS σ.s slot = σ.get slot from rfl, hσ] at h1; exact h1
              · exact hp
          have skip : ∀ (σ1 : St), Eqv σ1 σ → (∀ p ∈ σ1.s, p ∈ σ.s) → σ1.b = σ.b →
              (∀ τ : St, (∀ t ∈ looksOf ops.toList o, τ.get t = σ.get t) → StepSound X ops i τ (τ.addR ⟨d, .void, none⟩)) →
              (bif PV.void.refs.all (refOK bs ds i) then freeK X.E run ops.toList bs ds nn (i + 1) l (σ1.put (some d) .void) nb K else none) = some r → _ := fun σ1 h1 h2 h3 h4 h5 =>
            next σ1 .void none nb h1 h2 h3 (fun v hv => by cases hv) rfl (fun τ hτ _ _ => h4 τ hτ) h5
          have skB : ∀ b : Bool, σ.get slot = .sv (.one (.bool b)) → b ≠ want → ∀ τ : St, (∀ t ∈ looksOf ops.toList o, τ.get t = σ.get t) → StepSound X ops i τ (τ.addR ⟨d, .void, none⟩) := fun b hσ hbw τ hτ => by
            have hτs : τ.get slot = .sv (.one (.bool b)) := (hτ slot hsl).trans hσ
            obtain ⟨σ', h1, h2⟩ := step_sound (K := some) (run := run) hT hR hoi hdo (r := (τ.put (some slot) (.sv (.one (.bool b)))).put (some d) .void) (σ := τ) (by
              unfold opGK
              rw [hg]
              simp only [hslot, guardK, hτs, hdst]
              cases b <;> cases want <;> first | rfl | exact absurd rfl hbw)
            cases h1
            intro A a w hi hdef nx Q hn
            exact h2 A a w hi hdef nx Q fun A' a' w' hi' hd' => hn A' a' w' (hi'.eqv (eqv_reput hτs (by simp) none)) hd'
          unfold guardK at h
          split at h
          · rename_i b hb2
            cases b <;> cases want <;> simp only [cond_true, cond_false] at h
            · exact go _ (fun τ => τ.put (some slot) (.sv (.one (.bool false)))) (eqB false hb2).1 (eqB false hb2).2 rfl (goB false hb2 rfl) h
            · exact skip _ (eqB false hb2).1 (eqB false hb2).2 rfl (skB false hb2 (by simp)) h
            · exact skip _ (eqB true hb2).1 (eqB true hb2).2 rfl (skB true hb2 (by simp)) h
            · exact go _ (fun τ => τ.put (some slot) (.sv (.one (.bool true)))) (eqB true hb2).1 (eqB true hb2).2 rfl (goB true hb2 rfl) h
          · rename_i hv
            refine skip σ ⟨fun _ => rfl, fun _ => rfl, fun _ h => h⟩ (fun _ h => h) rfl (fun τ hτ => ?_) h
            have hτs : τ.get slot = .void := (hτ slot hsl).trans hv
            obtain ⟨σ', h1, h2⟩ := step_sound (K := some) (run := run) hT hR hoi hdo (r := τ.put (some d) .void) (σ := τ) (by
              unfold opGK
              rw [hg]
              simp only [hslot, guardK, hτs, hdst])
            cases h1
            exact h2
          · cases h


theorem ops_chain {R : Type} {K : St → Option R} {r : R} (hT : TabOK X.P X.E) (hR : RunOK X.P X.E run) (hd : ∀ o ∈ ops.toList, ∀ d, o.dst = some d → d < X.n) :
    ∀ (l : List Oper) (i : Nat) (σ : St), ops.toList.drop i = l → opsK X.E run ops.toList l σ K = some r →
      ∃ st : Nat → St, st i = σ ∧ K (st (i + l.length)) = some r ∧ ∀ k, i ≤ k → k < i + l.length → StepSound X ops k (st k) (st (k + 1))
  | [], i, σ, hl, h => ⟨fun _ => σ, rfl, h, fun k h1 h2 => by simp at h2; omega⟩
  | o :: l, i, σ, hl, h => by
    simp only [opsK] at h
    have hio : ops[i]? = some o := by
      have := congrArg (·[0]?) hl
      simp only [List.getElem?_drop, List.getElem?_cons_zero, Nat.add_zero] at this
      rw [← Array.getElem?_toList]; exact this
    have hmem : o ∈ ops.toList := List.mem_of_getElem? (by rw [← Array.getElem?_toList] at hio; exact hio)
    obtain ⟨σ1, h1, h2⟩ := step_sound hT hR hio (hd o hmem) h
    have hl' : ops.toList.drop (i + 1) = l := by rw [← List.drop_drop, hl]; rfl
    obtain ⟨st, h3, h4, h5⟩ := ops_chain hT hR hd l (i + 1) σ1 hl' h1
    refine ⟨fun k => if k ≤ i then σ else st k, by simp, ?_, fun k hk1 hk2 => ?_⟩
    · have : ¬ (i + (l.length + 1) ≤ i) := by omega
      simp only [List.length_cons, this, if_false]
      rw [show i + (l.length + 1) = i + 1 + l.length by omega]; exact h4
    · simp only [List.length_cons] at hk2
      have hk3 : ¬ (k + 1 ≤ i) := by omega
      simp only [hk3, if_false]
      by_cases hki : k = i
      · subst hki
        simp only [Nat.le_refl, if_true, h3]; exact h2
      · have : ¬ (k ≤ i) := by omega
        simp only [this, if_false]
        exact h5 k (by omega) (by omega)

theorem Rep.congr {σ0 τ : St} {recs : List Rec} {S S' : Nat → Prop} (h : Rep σ0 recs S τ) (e : ∀ q, S q ↔ S' q) : Rep σ0 recs S' τ := by
  have : S = S' := funext fun q => propext (e q)
  rw [← this]; exact h
theorem RepB.congr {b0 b : List (Nat × (TypeId × List PC))} {recs : List Rec} {S S' : Nat → Prop} (h : RepB b0 recs S b) (e : ∀ q, S q ↔ S' q) : RepB b0 recs S' b := by
  have : S = S' := funext fun q => propext (e q)
  rw [← this]; exact h

theorem listed_set {listed : Array Bool} {i : Nat} (h : listed.getD i true = false) (j : Nat) : (listed.setIfInBounds i true).getD j false = true ↔ listed.getD j false = true ∨ j = i := by
  have hlt : i < listed.size := by
    rcases Nat.lt_or_ge i listed.size with h' | h'
    · exact h'
    · simp [Array.getElem?_eq_none h'] at h
  by_cases hij : i = j
  · subst hij; simp [hlt]
  · rw [getD_set_ne false hij]
    constructor
    · exact .inl
    · rintro (h | rfl)
      · exact h
      · exact absurd rfl hij

theorem unlisted {listed : Array Bool} {i : Nat} (h : listed.getD i true = false) : ¬ listed.getD i false = true := by
  intro h2
  rw [Array.getD_eq_getD_getElem?] at h h2
  cases hl : listed[i]? with
  | none => rw [hl] at h; cases h
  | some b => rw [hl] at h h2; simp only [Option.getD_some] at h h2; rw [h] at h2; cases h2

/-- Where a draw stands. -/
def Phase (X : Ctx) (σ0 : St) (recs : List Rec) (m n : Nat) (st : Nat → St) (L : Nat → Prop) (A : Fr) (a : Act) (w : World) : Prop :=
  (∃ τ, (∀ k, L k → k < m) ∧ Rep σ0 recs L τ ∧ RepB σ0.b recs L τ.b ∧ Inv X A τ a.tmps w) ∨ ∃ k, m ≤ k ∧ k ≤ n ∧ (∀ j, L j ↔ j < k) ∧ Inv X A (st k) a.tmps w

theorem order_sound {bs ds nn : List Nat} {σ0 σ1 : St} {nb : List (Nat × (TypeId × List PC))} {recs : List Rec} {m : Nat} {st : Nat → St} {Q : Exit → Act → World → Prop} (hbs : bs = befores ops.toList []) (hE : edgesOK 0 ops.toList = true)
    (hds : nodup ds = true) (hlen : recs.length = m) (hmn : m ≤ ops.size) (hrd : ∀ (q : Nat) (f : Rec), recs[q]? = some f → ds[q]? = some f.d) (hdm : ds.length = m) (h0 : ∀ s ∈ σ0.refs, s ∉ ds) (hrep : Rep σ0 recs (fun _ => True) σ1) (hb1 : σ1.b = σ0.b)
    (hrb : RepB σ0.b recs (fun _ => True) (nb ++ σ0.b)) (hfacts : ∀ q, q < m → Fact X ops bs ds nn σ0 recs q) (hst : st m = { s := σ1.s, b := nb ++ σ1.b }) (hsteps : ∀ k, m ≤ k → k < ops.size → StepSound X ops k (st k) (st (k + 1)))
    (hfull : ∀ k, m ≤ k → k < ops.size → bs.getD k 0 = 2 ^ k - 1) (hq : ∀ (A : Fr) (a : Act) (w : World), Inv X A (st ops.size) a.tmps w → a.defers = [] → Q .normal a w) :
    ∀ (fuel : Nat) (listed : Array Bool) (A : Fr) (a : Act) (w : World), listed.size = ops.size → (List.range ops.size).countP (fun k => !listed.getD k true) ≤ fuel → Closed ops (fun k => listed.getD k false = true) → a.defers = [] →
      Phase X σ0 recs m ops.size st (fun k => listed.getD k false = true) A a w → wpAny X.P .any ops Q fuel listed a w := by
  have hap : Apart recs := fun q q' f f' h1 h2 e => by
    have k1 := hrd q f h1
    have k2 := hrd q' f' h2
    rw [e] at k1
    exact nodup_idx hds k1 k2
  -- all that are free are listed: the second phase
  have conv : ∀ (L : Nat → Prop) (A : Fr) (a : Act) (w : World) (τ : St), (∀ k, L k → k < m) → (∀ k, k < m → L k) → Rep σ0 recs L τ → RepB σ0.b recs L τ.b → Inv X A τ a.tmps w → Inv X A (st m) a.tmps w := by
    intro L A a w τ h1 h2 h3 h4 hi
    have hall : ∀ (q : Nat) (f : Rec), recs[q]? = some f → L q := fun q f hq => h2 q (by have := (List.getElem?_eq_some_iff.1 hq).1; omega)
    refine hi.eqv ⟨fun t => ?_, fun t => ?_, fun p hp => ?_⟩
    · rw [hst]
      show τ.get t = σ1.get t
      by_cases hex : ∃ (q : Nat) (f : Rec), recs[q]? = some f ∧ f.d = t
      · obtain ⟨q, f, k1, rfl⟩ := hex
        rw [h3.got q f k1 (hall q f k1), hrep.got q f k1 trivial]
      · have hno : ∀ (q : Nat) (f : Rec), recs[q]? = some f → f.d ≠ t := fun q f k1 k2 => hex ⟨q, f, k1, k2⟩
        rw [h3.get t fun q f k1 _ => hno q f k1, hrep.get t fun q f k1 _ => hno q f k1]
    · rw [hst, hb1]
      by_cases hex : ∃ (q : Nat) (f : Rec) (v : TypeId × List PC), recs[q]? = some f ∧ f.bx = some v ∧ f.d = t
      · obtain ⟨q, f, v, k1, k2, rfl⟩ := hex
        rw [h4.got q f v k1 (hall q f k1) k2, hrb.got q f v k1 trivial k2]
      · have hno : ∀ (q : Nat) (f : Rec), recs[q]? = some f → f.bx ≠ none → f.d ≠ t := fun q f k1 k2 k3 => by
          cases hv : f.bx with
          | none => exact k2 hv
          | some v => exact hex ⟨q, f, v, k1, hv, k3⟩
        rw [h4.get t fun q f k1 _ k2 => hno q f k1 k2, hrb.get t fun q f k1 _ k2 => hno q f k1 k2]
    · rw [hst] at hp
      rcases hrep.ent p hp with k1 | ⟨q, f, k1, _, rfl⟩
      · exact h3.ent0 p k1
      · exact h3.ent1 q f k1 (hall q f k1)
  -- nothing is ready: all are listed
  have done : ∀ (listed : Array Bool) (A : Fr) (a : Act) (w : World), listed.size = ops.size → a.defers = [] → Phase X σ0 recs m ops.size st (fun k => listed.getD k false = true) A a w → Region.ready .any ops listed = [] → Q .normal a w := by
    intro listed A a w hsz hdef hph hr
    have hall : ∀ k, k < ops.size → listed.getD k false = true := by
      intro k
      induction k using Nat.strongRecOn with
      | _ k ih =>
        intro hk
        cases hlk : listed.getD k false with
        | true => rfl
        | false =>
          exfalso
          have hu : listed.getD k true = false := by
            rw [Array.getD_eq_getD_getElem?] at hlk ⊢
            rw [Array.getElem?_eq_getElem (by omega)] at hlk ⊢
            exact hlk
          have hmem : k ∈ Region.ready .any ops listed := mem_ready.2 ⟨hu, ops[k], Array.getElem?_eq_getElem hk, fun e he hb => by
            have := edges_spec ops.toList 0 hE k ops[k] (by rw [Array.getElem?_toList]; exact Array.getElem?_eq_getElem hk) e he hb
            exact ih e.on (by omega) (by omega)⟩
          rw [hr] at hmem; cases hmem
    rcases hph with ⟨τ, h1, h2, h3, h4⟩ | ⟨k, h1, h2, h3, h4⟩
    · have hm : m = ops.size := by
        rcases Nat.lt_or_ge m ops.size with h | h
        · have := h1 m (hall m h); omega
        · omega
      have := conv _ A a w τ h1 (fun k hk => hall k (by omega)) h2 h3 h4
      rw [hm] at this
      exact hq A a w this hdef
    · have hk : k = ops.size := by
        rcases Nat.lt_or_ge k ops.size with h | h
        · have := (h3 k).1 (hall k h); omega
        · omega
      rw [hk] at h4
      exact hq A a w h4 hdef
  intro fuel
  induction fuel with
  | zero =>
    intro listed A a w hsz hcnt hcl hdef hph
    have hr : Region.ready .any ops listed = [] := List.eq_nil_iff_forall_not_mem.2 fun i hi => by
      obtain ⟨hu, o, ho, _⟩ := mem_ready.1 hi
      have hlt := (Array.getElem?_eq_some_iff.1 ho).1
      have : 0 < (List.range ops.size).countP (fun k => !listed.getD k true) := List.countP_pos_iff.2 ⟨i, List.mem_range.2 hlt, by simp only [hu, Bool.not_false]⟩
      omega
    exact ⟨hr, done listed A a w hsz hdef hph hr⟩
  | succ fuel ih =>
    intro listed A a w hsz hcnt hcl hdef hph
    refine ⟨done listed A a w hsz hdef hph, fun i hi => ?_⟩
    obtain ⟨hu, o, ho, hedges⟩ := mem_ready.1 hi
    have hlt := (Array.getElem?_eq_some_iff.1 ho).1
    have hnl := unlisted hu
    have hset := listed_set hu
    have bits : ∀ j, Nat.testBit (bs.getD i 0) j = true → j < i ∧ listed.getD j false = true := fun j hj => by
      rw [hbs] at hj
      obtain ⟨k1, k2⟩ := bit_before hE i o j ho hj
      exact ⟨k1, k2 _ hcl hedges⟩
    -- what holds of the next state
    have nxt : ∀ (A' : Fr) (a' : Act) (w' : World), a'.defers = [] → Phase X σ0 recs m ops.size st (fun k => (listed.setIfInBounds i true).getD k false = true) A' a' w' → wpAny X.P .any ops Q fuel (listed.setIfInBounds i true) a' w' := fun A' a' w' hd' hp' => by
      refine ih _ A' a' w' (by simp [hsz]) ?_ ?_ hd' hp'
      · have : (List.range ops.size).countP (fun k => !(listed.setIfInBounds i true).getD k true) < (List.range ops.size).countP (fun k => !listed.getD k true) := by
          refine countP_lt (i := i) (fun x _ hx => ?_) (List.mem_range.2 hlt) (by simp only [hu, Bool.not_false]) (by simp [hsz, hlt])
          by_cases hxi : i = x
          · subst hxi; simp only [hu, Bool.not_false]
          · rw [getD_set_ne true hxi] at hx; exact hx
        omega
      · intro k ok hok hk e he hb
        rw [hset] at hk ⊢
        left
        rcases hk with hk | rfl
        · exact hcl k ok hok hk e he hb
        · rw [ho] at hok; cases hok; exact hedges e he hb
    have second : ∀ k, m ≤ k → k ≤ ops.size → (∀ j, listed.getD j false = true ↔ j < k) → Inv X A (st k) a.tmps w → wpOp X.P ops Q i (wpAny X.P .any ops Q fuel (listed.setIfInBounds i true)) a w := fun k hk1 hk2 hk3 hinv => by
      have hik : i = k := by
        rcases Nat.lt_trichotomy i k with h | h | h
        · exact absurd ((hk3 i).2 h) hnl
        · exact h
        · have hf := hfull i (by omega) hlt
          have := bits k (by rw [hf, Nat.testBit_two_pow_sub_one]; exact decide_eq_true h)
          have := (hk3 k).1 this.2
          omega
      subst hik
      refine hsteps i hk1 hlt A a w hinv hdef _ Q fun A' a' w' hi' hd' => nxt A' a' w' hd' (.inr ⟨i + 1, by omega, by omega, fun j => ?_, hi'⟩)
      show (listed.setIfInBounds i true).getD j false = true ↔ j < i + 1
      rw [hset, hk3]; omega
    rcases hph with ⟨τ, h1, h2, h3, h4⟩ | ⟨k, h1, h2, h3, h4⟩
    · by_cases him : i < m
      · obtain ⟨o', f, σq, k1, k2, k3, k4, k5, k6, k7, k8⟩ := (hfacts i him).ex
        rw [ho] at k1
        cases k1
        have hdi := hrd i f k2
        refine k8 τ (fun t ht => ?_) (fun d' hd' => ?_) ⟨fun p hp hr => ?_, fun p hp => ?_⟩ A a w h4 hdef _ Q fun A' a' w' hi' hd' => nxt A' a' w' hd' (.inl ⟨τ.addR f, fun k hk => ?_, (h2.add hap k2 hnl).congr fun q => (hset q).symm, (h3.add hap k2 hnl).congr fun q => (hset q).symm, hi'⟩)
        · have hdep := k5 t ht
          unfold depOK at hdep
          cases hidx : idxN t ds 0 with
          | none =>
            have hnd := idxN_none hidx
            have hno : ∀ (q : Nat) (g : Rec), recs[q]? = some g → g.d ≠ t := fun q g hg e => hnd (e ▸ List.mem_of_getElem? (hrd q g hg))
            rw [h2.get t fun q g hg _ => hno q g hg, k4.get t fun q g hg _ => hno q g hg]
          | some q =>
            simp only [hidx] at hdep
            obtain ⟨_, hdq⟩ := idxN_some hidx
            rw [Nat.sub_zero] at hdq
            obtain ⟨b1, b2⟩ := bits q hdep
            have hqm : q < recs.length := by omega
            have hg := List.getElem?_eq_getElem hqm
            have hgd := hrd q _ hg
            rw [hdq] at hgd
            cases hgd
            rw [h2.got q _ hg b2, k4.got q _ hg b1]
        · exact h3.get d' fun q g hg hS hbx e => by
            obtain ⟨o2, g2, _, _, j2, _, _, _, _, j7, _⟩ := (hfacts q (by have := (List.getElem?_eq_some_iff.1 hg).1; omega)).ex
            rw [hg] at j2
            cases j2
            cases hv : g.bx with
            | none => exact hbx hv
            | some v => exact hd' (e ▸ (j7 v hv).1)
        · rcases h2.ent p hp with q1 | ⟨q, g, q1, q2, rfl⟩
          · exact h0 f.d (List.mem_append_left _ (entRefs_mem q1 hr)) (List.mem_of_getElem? hdi)
          · obtain ⟨o2, g2, _, j1, j2, _, _, _, j6, _, _⟩ := (hfacts q (by have := (List.getElem?_eq_some_iff.1 q1).1; omega)).ex
            rw [q1] at j2
            cases j2
            have href := j6 f.d hr
            unfold refOK at href
            cases hidx : idxN f.d ds 0 with
            | none => exact idxN_none hidx (List.mem_of_getElem? hdi)
            | some z =>
              simp only [hidx, Bool.or_eq_true] at href
              obtain ⟨_, hdz⟩ := idxN_some hidx
              rw [Nat.sub_zero] at hdz
              have hzi : z = i := nodup_idx hds hdz hdi
              subst hzi
              rcases href with href | href
              · have := Nat.eq_of_beq_eq_true href
                subst this
                exact hnl q2
              · rw [hbs] at href
                obtain ⟨_, b2⟩ := bit_before hE q o2 z j1 href
                exact hnl (b2 _ hcl fun e he hb => hcl q o2 j1 q2 e he hb)
        · rcases h3.ent p hp with q1 | ⟨q, g, v, q1, q2, q3, rfl⟩
          · obtain ⟨r1, r2⟩ := boxRefs_mem q1
            exact ⟨fun e => h0 p.1 (List.mem_append_right _ r1) (e ▸ List.mem_of_getElem? hdi), fun c hc hr => h0 f.d (List.mem_append_right _ (r2 f.d (List.mem_flatMap.2 ⟨c, hc, hr⟩))) (List.mem_of_getElem? hdi)⟩
          · obtain ⟨o2, g2, _, j1, j2, _, _, _, _, j7, _⟩ := (hfacts q (by have := (List.getElem?_eq_some_iff.1 q1).1; omega)).ex
            rw [q1] at j2
            cases j2
            refine ⟨fun e => ?_, fun c hc hr => by rw [(j7 v q3).2 c hc] at hr; cases hr⟩
            have := hap i q f g k2 q1 e
            subst this
            exact hnl q2
        · rcases (hset k).1 hk with hk | rfl
          · exact h1 k hk
          · exact him
      · -- all that are free are listed
        have hall : ∀ j, j < m → listed.getD j false = true := fun j hj => by
          have hf := hfull i (by omega) hlt
          exact (bits j (by rw [hf, Nat.testBit_two_pow_sub_one]; exact decide_eq_true (by omega))).2
        exact second m (Nat.le_refl _) hmn (fun j => ⟨h1 j, hall j⟩) (conv _ A a w τ h1 hall h2 h3 h4)
    · exact second k h1 h2 h3 h4

theorem draw_sound {id : Nat} {R : Type} {K : St → Option R} {r : R} {σ : St} (hT : TabOK X.P X.E) (hR : RunOK X.P X.E run) (hd : ∀ o ∈ ops.toList, ∀ d, o.dst = some d → d < X.n)
    (h : drawK X.E run ops.toList σ K = some r) : ∃ σ', K σ' = some r ∧ CodeSound X (.region id ops true) σ .normal σ' := by
  unfold drawK at h
  simp only at h
  generalize hbs : befores ops.toList [] = bs at h
  generalize hm : freeLen bs 0 0 = m at h
  generalize hdsd : (ops.toList.take m).map (fun o => o.dst.getD 0) = ds at h
  generalize (ops.toList.take m).filterMap (fun o => bif isAlloc o.op then o.dst else none) = nn at h
  cases hcond : (nodup ds && (edgesOK 0 ops.toList && σ.refs.all fun s => !mem ds s)) with
  | false => rw [hcond] at h; cases h
  | true =>
    rw [hcond] at h
    simp only [cond_true] at h
    simp only [Bool.and_eq_true, List.all_eq_true, Bool.not_eq_true'] at hcond
    obtain ⟨hds, hE, h0⟩ := hcond
    have hblen : bs.length = ops.size := by rw [← hbs, (befores_spec ops.toList []).1]; simp
    obtain ⟨_, hml, hfull⟩ := freeLen_spec bs 0 0 (Nat.le_refl _)
    rw [hm] at hml hfull
    have hmn : m ≤ ops.size := by omega
    have hdlen : ds.length = m := by rw [← hdsd]; simp; omega
    have hrep0 : Rep σ [] (fun _ => True) σ := ⟨fun _ _ => rfl, fun q f hq => by simp at hq, fun p hp => .inl hp, fun p hp => hp, fun q f hq => by simp at hq⟩
    have hrb0 : RepB σ.b [] (fun _ => True) ([] ++ σ.b) := ⟨fun _ _ => rfl, fun q f v hq => by simp at hq, fun p hp => .inl hp⟩
    obtain ⟨recs, σ1, nb, k1, _, k3, k4, k5, k6, k7, k8⟩ := freeK_sound (ops := ops) hT hR hd (bs := bs) (ds := ds) (nn := nn) (σ0 := σ) hds (ops.toList.take m) 0 σ [] [] (fun q o hq => by
      rw [Nat.zero_add]
      rw [List.getElem?_take] at hq
      split at hq
      · refine ⟨by rw [← Array.getElem?_toList]; exact hq, ?_⟩
        rw [← hdsd, List.getElem?_map, List.getElem?_take, if_pos (by assumption), hq]; rfl
      · cases hq) rfl (fun q f hq => by simp at hq) hrep0 rfl hrb0 h
    have hrl : recs.length = m := by rw [k1]; simp; omega
    obtain ⟨st, s1, s2, s3⟩ := ops_chain hT hR hd (ops.toList.drop m) m _ rfl k4
    have hlen2 : m + (ops.toList.drop m).length = ops.size := by simp; omega
    rw [hlen2] at s2 s3
    refine ⟨st ops.size, s2, fun A a w Q hi hdef hq => ?_⟩
    refine wp_region_any hT.mixed ?_
    have hi' : Inv X A σ a.tmps { w with drawn := w.drawn + 1 } := hi.drew
    refine order_sound (X := X) (nn := nn) (σ1 := σ1) (nb := nb) hbs.symm hE hds hrl hmn k3 hdlen (fun s hs hx => by have := h0 s hs; rw [mem_iff.2 hx] at this; cases this) k5 k6 k7
      (fun q hq => k8 q (Nat.zero_le _) (by simp; omega)) s1 s3 (fun k hk1 hk2 => ?_) (fun A a w hi hd => hq A a w hi hd) ops.size (Array.replicate ops.size false) A a _ (by simp) ?_ ?_ hdef (.inl ⟨σ, fun k hk => ?_, ?_, ?_, hi'⟩)
    · have hb : k < bs.length := by omega
      have := hfull k (by omega) _ (List.getElem?_eq_getElem hb)
      rw [Nat.zero_add] at this
      rw [List.getD_eq_getElem?_getD, List.getElem?_eq_getElem hb]
      exact this
    · exact Nat.le_trans (List.countP_le_length ..) (by simp)
    · intro k o ho hk
      exfalso
      by_cases h : k < ops.size <;> simp [h] at hk
    · exfalso
      by_cases h : k < ops.size <;> simp [h] at hk
    · have hno : ∀ k, ¬ (Array.replicate ops.size false).getD k false = true := fun k hk => by by_cases h : k < ops.size <;> simp [h] at hk
      exact ⟨fun _ _ => rfl, fun q f _ hS => (hno q hS).elim, fun p hp => .inl hp, fun p hp => hp, fun q f _ hS => (hno q hS).elim⟩
    · have hno : ∀ k, ¬ (Array.replicate ops.size false).getD k false = true := fun k hk => by by_cases h : k < ops.size <;> simp [h] at hk
      exact ⟨fun _ _ => rfl, fun q f v _ hS => (hno q hS).elim, fun p hp => .inl hp⟩

end
end Go.Sv
