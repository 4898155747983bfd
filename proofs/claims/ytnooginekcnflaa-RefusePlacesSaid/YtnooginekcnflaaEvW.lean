/- Functions: what the evaluator tells of a function is a contract that the model keeps. -/
import Derived.Test.YtnooginekcnflaaEvV
namespace Go.Sv
open Go
set_option linter.unusedVariables false
set_option linter.unusedSimpArgs false

theorem dstsOK_mono {n m : Nat} (h : n ≤ m) : ∀ {c : Code}, dstsOK n c = true → dstsOK m c = true
  | .region _ ops _, hc => by
    simp only [dstsOK, List.all_eq_true] at hc ⊢
    intro o ho
    have := hc o ho
    cases hd : o.dst with
    | none => rfl
    | some d => simp only [hd, decide_eq_true_eq] at this ⊢; exact Nat.lt_of_lt_of_le this h
  | .seq a b, hc => by simp only [dstsOK, Bool.and_eq_true] at hc ⊢; exact ⟨dstsOK_mono h hc.1, dstsOK_mono h hc.2⟩
  | .cond _ a b, hc => by simp only [dstsOK, Bool.and_eq_true] at hc ⊢; exact ⟨dstsOK_mono h hc.1, dstsOK_mono h hc.2⟩
  | .block _ c, hc => by simp only [dstsOK] at hc ⊢; exact dstsOK_mono h hc
  | .loop c, hc => by simp only [dstsOK] at hc ⊢; exact dstsOK_mono h hc
  | .scope c, hc => by simp only [dstsOK] at hc ⊢; exact dstsOK_mono h hc
  | .skip, _ | .exit .., _ | .goto .., _ | .ret, _ | .label .., _ | .rangeFunc .., _ | .refuse .., _ => rfl

section
variable {X : Ctx} {σ : St}

theorem load_core (hE : TypesOK X.P X.E) {t : TypeId} {p : PV} {s : SV} {A : Fr} {tm : Array Value} {w : World} {v : Value} (hi : Inv X A σ tm w) (hl : loadK X.E σ t p some = some s) (hx : RP (X.F A) A w p v) :
    ∃ ad u, v = .pointer (some ad) ∧ (loadVar t ad).run X.P w = .ok u w ∧ RS (X.F A) A w s u := by
  have fin : ∀ ad, v = .pointer (some ad) → (∃ v, (loadVar t ad).run X.P w = .ok v w ∧ RS (X.F A) A w s v) → ∃ ad u, v = .pointer (some ad) ∧ (loadVar t ad).run X.P w = .ok u w ∧ RS (X.F A) A w s u := fun ad he ⟨u, hr, hs⟩ => ⟨ad, u, he, hr, hs⟩
  match p, hl, hx with
  | .sv (.one (.box d off)), hl, hx =>
    obtain ⟨i, tid, cs, hti, hb, hle, hs⟩ := loadK_box hl
    obtain ⟨b, hbx, he⟩ := hx
    obtain ⟨b', vs, hbx', hh, hc⟩ := hi.box d tid cs hb
    rw [hbx] at hbx'
    cases hbx'
    refine fin _ he (loadVar_run hti (hE.ti t i hti) (forall2_take (forall2_drop hc off) i.size) hs (by simp; omega) fun j u hj => ?_)
    rw [add_off, cell_of_block hh]
    simpa using drop_take_get _ _ _ _ _ hj
  | .sv (.one (.elem u y)), hl, hx =>
    obtain ⟨i, hti, hty, hs⟩ := loadK_elem hl
    obtain ⟨ad, cs, he, hF, hc, hcell⟩ := hx
    exact fin _ he (loadVar_run hti (hE.ti t i hti) hc.toPC hs (by rw [toPC_len]; exact (hE.ti t i hti).ty u hty) hcell)
  | .sv (.one (.elemT u g n off)), hl, hx =>
    obtain ⟨i, e, xs, hti, hf, hle, hs⟩ := loadK_elemT hl
    obtain ⟨b, cap, cur, htg, he, h0, hlt, hh, h1, h2, h3, h4⟩ := elemT_at hi hf hx
    obtain ⟨ds, hds, hcell⟩ := h4 _ _ (rd_get hlt)
    refine fin _ he (loadVar_run hti (hE.ti t i hti) (forall2_take (forall2_drop hds.toPC off) i.size) hs (by simp [toPC_len]; omega) fun j z hj => ?_)
    rw [add_off, cell_of_block hh, Nat.add_assoc]
    exact hcell _ _ (drop_take_get _ _ _ _ _ hj)
  | .undef, hl, _ => simp only [loadK] at hl; split at hl <;> cases hl
  | .void, hl, _ => simp only [loadK] at hl; split at hl <;> cases hl
  | .tup _, hl, _ => simp only [loadK] at hl; split at hl <;> cases hl
  | .sv (.agg _), hl, _ => simp only [loadK] at hl; split at hl <;> cases hl
  | .sv (.one (.bool _)), hl, _ | .sv (.one (.int _ _)), hl, _ | .sv (.one (.str _)), hl, _ | .sv (.one .nilS), hl, _ | .sv (.one (.slice _ _ _ _)), hl, _
  | .sv (.one (.clo _ _)), hl, _ | .sv (.one (.fnv _)), hl, _ | .sv (.one (.glob _)), hl, _ | .sv (.one .dead), hl, _ => simp only [loadK] at hl; split at hl <;> cases hl

def resVal (tm : Array Value) : ResultVar → Sem Value
  | .tmp t => pure (tm.getD t undef)
  | .cell a t => do loadVar t (← asAddr (tm.getD a undef))

theorem results_eq (fn : Func) (tm : Array Value) : results fn tm = (fn.results.mapM (resVal tm) >>= fun vs => pure (if h : vs.size = 1 then vs[0] else .tuple vs)) := by
  unfold results
  congr 2

theorem resSVs_sound (hE : TypesOK X.P X.E) {A : Fr} {tm : Array Value} {w : World} (hi : Inv X A σ tm w) : ∀ {rs : List ResultVar} {l : List SV}, resSVs X.E σ rs = some l →
    ∃ vs : List Value, (rs.mapM (resVal tm)).run X.P w = .ok vs w ∧ All2 (RS (X.F A) A w) l vs
  | [], l, h => by simp only [resSVs, Option.some.injEq] at h; subst h; exact ⟨[], by simp, .nil⟩
  | rv :: rs, l, h => by
    simp only [resSVs] at h
    split at h
    · rename_i s l' hs hl
      cases h
      obtain ⟨vs, h1, h2⟩ := resSVs_sound hE hi hl
      cases rv with
      | tmp t =>
        simp only [resSV] at hs
        split at hs
        · rename_i s' hg
          cases hs
          have hv := hi.slot t
          rw [hg] at hv
          refine ⟨tm.getD t undef :: vs, ?_, .cons hv h2⟩
          rw [List.mapM_cons]
          simp [h1, resVal]
        · cases hs
      | cell a t =>
        simp only [resSV] at hs
        obtain ⟨ad, u, he, hr, hu⟩ := load_core hE hi hs (hi.slot a)
        refine ⟨u :: vs, ?_, .cons hu h2⟩
        rw [List.mapM_cons]
        simp [he, asAddr, hr, h1, resVal]
    · cases h

/-- The results of a function, as its callers may hold them. -/
theorem results_sound (hE : TypesOK X.P X.E) {A : Fr} {a : Act} {w : World} (hi : Inv X A σ a.tmps w) {fn : Func} {tys : List TypeId} {ks : List Kd} {r : Tup ks} (h : resTup X.E σ fn.results.toList tys ks = some r) :
    ∃ v, (results fn a.tmps).run X.P w = .ok v w ∧ ∀ d, ∃ T, ResOK X.F0 X.G T X.W w d ks r v := by
  unfold resTup at h
  split at h
  · rename_i l hl
    split at h
    · rename_i H hH
      cases hrb : H.rb.isEmpty with
      | false => simp [hrb] at h
      | true =>
        simp only [hrb, cond_true] at h
        have hrb' : H.rb = [] := by simpa using hrb
        obtain ⟨vs, hr, hvs⟩ := resSVs_sound hE hi hl
        have hty := typedSVs_sound hi (ts := tys) hvs
        unfold handed at hH
        split at hH
        · rename_i H' hH'
          cases hok : H'.ok with
          | false => simp [hok] at hH
          | true =>
            simp only [hok, cond_true, Option.some.injEq] at hH
            subst hH
            refine ⟨if h : vs.toArray.size = 1 then vs.toArray[0] else .tuple vs.toArray, ?_, fun d => ?_⟩
            · have hr' : (fn.results.mapM (resVal a.tmps)).run X.P w = .ok vs.toArray w := by
                rw [Array.mapM_eq_mapM_toList]
                simp only [Sem.run_map, hr]
                rfl
              rw [results_eq, Sem.run_bind, hr']
              rfl
            · have hOK := ok_shift d (Hand.ok_iff hok)
              have hsh := res_shift d hH'
              have hshift0 : (({} : Hand).shift d) = {} := rfl
              rw [hshift0] at hsh
              generalize hHd : H'.shift d = Hd at hOK hsh
              have hrbd : Hd.rb = [] := by rw [← hHd]; simp [Hand.shift, hrb']
              have hbx : ∀ d, (Hd.fr A).bx d = none := fun d => by simp [Hand.fr, hrbd, lookB]
              have hsub : ∀ b, (Hd.fr A).F X.F0 b → X.F A b := fun b hb => by
                rcases hb with hb | ⟨d, hb⟩ | ⟨m, l, hb⟩
                · exact .inl hb
                · rw [hbx] at hb; cases hb
                · obtain ⟨n, _, h2⟩ := fr_tg hb; exact .inr (.inr ⟨n, l, h2⟩)
              have hf : Fits X A w Hd ((Hd.fr A).F X.F0) := by
                refine ⟨⟨fun _ _ _ => rfl, fun b hb => .inl (hsub b hb)⟩, fun m hm b l hb => ?_, fun d hd b hb => ?_⟩
                · rintro (hf | ⟨d, hf⟩ | ⟨m', l', hf⟩)
                  · exact hi.good.f0m (hi.good.tgm m b l hb).1 hf
                  · rw [hbx] at hf; cases hf
                  · obtain ⟨n, h1, h2⟩ := fr_tg hf
                    have := hi.good.tgi n m b l' l h2 hb
                    subst this
                    exact hOK.pl n hm (ren_src h1)
                · rintro (hf | ⟨d', hf⟩ | ⟨m', l', hf⟩)
                  · exact hi.good.f0m (hi.good.bxm d b hb).1 hf
                  · rw [hbx] at hf; cases hf
                  · obtain ⟨n, h1, h2⟩ := fr_tg hf; exact hi.good.bt d n b l' hb h2
              have hall := res_sound hi hOK hf hsh (.refl _) h hty
              refine ⟨Hd.fr A, ?_, hbx, fun n b l hb => ?_, fun n n' b l l' h1 h2 => ?_⟩
              · unfold resPV
                generalize unpackAll d 0 ks r = L at hall
                cases hall with
                | nil => trivial
                | cons h0 ht =>
                  cases ht with
                  | nil => exact h0
                  | cons h1 ht =>
                    refine ⟨_, ?_, .cons h0 (.cons h1 ht)⟩
                    simp
              · obtain ⟨s, h1, h2⟩ := fr_tg hb
                exact hi.good.tgm s b l h2
              · obtain ⟨s, k1, k2⟩ := fr_tg h1
                obtain ⟨s', k3, k4⟩ := fr_tg h2
                have := hi.good.tgi s s' b l l' k2 k4
                subst this
                exact nodup_src hOK.src k1 k3
        · cases hH
    · cases h
  · cases h

end

theorem args_slots {F : Nat → Prop} {A : Fr} {w : World} : ∀ {i : Nat} {ks : List Kd} {x : Tup ks} {vs : List Value}, All2 (fun (p : Nat × PV) v => RP F A w p.2 v) (argsOf i ks x) vs → ∀ p ∈ argsOf i ks x, ∃ q v, p.1 = i + q ∧ vs[q]? = some v ∧ RP F A w p.2 v
  | i, [], x, vs, h, p, hp => by cases hp
  | i, [k], x, vs, h, p, hp => by
    simp only [argsOf] at h hp
    cases h with
    | cons h0 ht => cases ht; rw [List.mem_singleton.1 hp]; exact ⟨0, _, rfl, rfl, h0⟩
  | i, k :: k' :: ks, x, vs, h, p, hp => by
    simp only [argsOf] at h hp
    cases h with
    | cons h0 ht =>
      rcases List.mem_cons.1 hp with rfl | hp
      · exact ⟨0, _, rfl, rfl, h0⟩
      · obtain ⟨q, v, h1, h2, h3⟩ := args_slots (ks := k' :: ks) ht p hp
        exact ⟨q + 1, v, by omega, by simpa using h2, h3⟩

theorem fn_sound {P : Program} {E : Env} {run : Runs E} {fuel f : Nat} {fn : Func} (hT : TabOK P E) (hR : RunOK P E run) (hf : P.funcs[f]? = some fn) (hok : ∀ c, fn.body = some c → dstsOK fn.ntmps c = true) {x : Tup (E.sig f).args} {r : Tup (E.sig f).res}
    (h : fnK E run fuel f fn x = some r) : Contract P E f x r := by
  intro w F0 G A vs hA
  unfold fnK at h
  split at h
  · cases h
  · rename_i c hc
    let X : Ctx := { P := P, E := E, W := w, G := G, F0 := F0, n := (vs.toArray ++ Array.replicate (fn.ntmps - vs.toArray.size) undef).size }
    have hn : fn.ntmps ≤ X.n := by
      show fn.ntmps ≤ (vs.toArray ++ Array.replicate (fn.ntmps - vs.toArray.size) undef).size
      rw [Array.size_append, Array.size_replicate]; omega
    have hinv : Inv X A { s := argsOf 0 (E.sig f).args x, b := [] } (vs.toArray ++ Array.replicate (fn.ntmps - vs.toArray.size) undef) w := by
      have hsl := args_slots hA.rel
      refine ⟨rfl, Kept.refl G w, hA.glob, fun i => ?_, fun d tid cs hd => by simp [getB] at hd, ?_, fun p hp => ?_⟩
      · rcases getS_mem (argsOf 0 (E.sig f).args x) i with h1 | h1
        · show RP _ _ _ (getS _ i) _
          rw [h1]; trivial
        · obtain ⟨q, v, h2, h3, h4⟩ := hsl _ h1
          have hqi : q = i := by simp only at h2; omega
          subst hqi
          have hlt := (List.getElem?_eq_some_iff.1 h3).1
          have : (vs.toArray ++ Array.replicate (fn.ntmps - vs.toArray.size) undef).getD q undef = v := by
            rw [Array.getD_eq_getD_getElem?, Array.getElem?_append_left (by simpa using hlt)]
            simp [h3]
          rw [this]; exact h4
      · exact ⟨fun d b hb => (by rw [hA.bx] at hb; cases hb), fun n b l hb => ⟨.inr (hA.tgm n b l hb).1, (hA.tgm n b l hb).2⟩, fun d d' b hb => (by rw [hA.bx] at hb; cases hb), hA.tgi, fun d n b l hb => (by rw [hA.bx] at hb; cases hb), hA.f0⟩
      · obtain ⟨q, v, _, _, h4⟩ := hsl p hp; exact ⟨v, h4⟩
    obtain ⟨e, σ', h1, h2⟩ := (exec_sound (X := X) (run := run) (fuel := fuel) (f := f) hT hR c (dstsOK_mono hn (hok c hc)) 0 _ _ r).1 h
    refine calls_of_wp hf hc (h2 A _ w _ hinv rfl fun A' a' w' hi' hd' => ?_)
    have fin : resTup E σ' fn.results.toList fn.resultTypes.toList (E.sig f).res = some r → a'.defers = [] ∧ ∃ v, (results fn a'.tmps).run P w' = .ok v w' ∧ Returns G F0 w (E.sig f).res r (.returned v) w' := fun hres => by
      obtain ⟨v, hv, hd⟩ := results_sound (X := X) hT.types hi' hres
      exact ⟨hd', v, hv, v, rfl, hi'.kept, hd⟩
    cases e with
    | normal => exact fin h1
    | ret => exact fin h1
    | exit id => cases h1
    | goto l => cases h1

/-- What a seat's tables of functions must be. -/
structure EnvOK (P : Program) (E : Env) : Prop where
  tab : TabOK P E
  fn : ∀ f fn, E.fn f = some fn → P.funcs[f]? = some fn ∧ (fn.name == "runtime.NumGoroutine") = false ∧ ∀ c, fn.body = some c → dstsOK fn.ntmps c = true
  foreign : ∀ f g, E.foreign f = some g → Callable P f ∧ ∀ x r, g x = some r → Contract P E f x r

theorem run_sound {P : Program} {E : Env} (h : EnvOK P E) : ∀ k, RunOK P E (run E k)
  | 0 => fun f x r hr => by simp [run] at hr
  | k + 1 => fun f x r hr => by
    simp only [run] at hr
    split at hr
    · rename_i g hg
      obtain ⟨h1, h2⟩ := h.foreign f g hg
      exact ⟨h1, h2 x r hr⟩
    · split at hr
      · rename_i fn hfn
        obtain ⟨h1, h2, h3⟩ := h.fn f fn hfn
        refine ⟨⟨fn, h1, h2, ?_⟩, fn_sound h.tab (run_sound h k) h1 h3 hr⟩
        unfold fnK at hr
        split at hr
        · cases hr
        · rename_i c hc; rw [hc]; rfl
      · cases hr

end Go.Sv
