/- Calls, and what is left of the operations. -/
import Derived.Test.YtnooginekcnflaaEvQ
namespace Go.Sv
open Go
set_option linter.unusedVariables false
set_option linter.unusedSimpArgs false

def Callable (P : Program) (f : Nat) : Prop := ∃ fn, P.funcs[f]? = some fn ∧ (fn.name == "runtime.NumGoroutine") = false ∧ fn.body.isNone = false

def RunOK (P : Program) (E : Env) (run : Runs E) : Prop := ∀ f x r, run f x = some r → Callable P f ∧ Contract P E f x r

section
variable {X : Ctx} {run : Runs X.E} {o : Oper} {σ σ' : St}

theorem enter_run {f : Nat} (hf : Callable X.P f) (args : Array Value) (w : World) : (callFunc f args).run X.P w = .ok (.enter f args) w := by
  obtain ⟨fn, h1, h2, h3⟩ := hf
  have h2' : ¬ fn.name = "runtime.NumGoroutine" := by simpa using h2
  have h3' : ¬ fn.body = none := by cases hb : fn.body <;> simp_all
  simp [callFunc, h1, h2', h3']

/-- The arguments of a call are in order. -/
theorem argsOK_of {A : Fr} {tm : Array Value} {w : World} (hi : Inv X A σ tm w) {ks : List Kd} {args : List SV} {x : Tup ks} {H : Hand} {vs : List Value} (hh : handed σ (argSlots 0 ks) args = some H) (hrb : H.rb = []) (hp : packAll σ ks args = some x) (hv : All2 (RS (X.F A) A w) args vs) :
    H.OK ∧ ArgsOK X.E (H.F0 X A) (H.G A) (H.fr A) w ks x vs := by
  unfold handed at hh
  split at hh
  · rename_i H' hH'
    cases hok : H'.ok with
    | false => simp [hok] at hh
    | true =>
      simp only [hok, cond_true, Option.some.injEq] at hh
      subst hh
      have hOK := Hand.ok_iff hok
      have hbx : ∀ d, (H'.fr A).bx d = none := fun d => by simp [Hand.fr, hrb, lookB]
      have hF0 : ∀ b, H'.F0 X A b → X.F A b := fun b hb => by
        rcases hb with hb | ⟨d, hb, _⟩ | ⟨n, l, hb, _⟩
        · exact .inl hb
        · exact .inr (.inl ⟨d, hb⟩)
        · exact .inr (.inr ⟨n, l, hb⟩)
      have hsub : ∀ b, (H'.fr A).F (H'.F0 X A) b → X.F A b := fun b hb => by
        rcases hb with hb | ⟨d, hb⟩ | ⟨m, l, hb⟩
        · exact hF0 b hb
        · rw [hbx] at hb; cases hb
        · obtain ⟨n, _, h2⟩ := fr_tg hb; exact .inr (.inr ⟨n, l, h2⟩)
      have hf : Fits X A w H' ((H'.fr A).F (H'.F0 X A)) := by
        refine ⟨⟨fun _ _ _ => rfl, fun b hb => .inl (hsub b hb)⟩, fun m hm b l hb => ?_, fun d hd b hb => ?_⟩
        · rintro ((hf | ⟨d, hf, _⟩ | ⟨n, l', hf, _, hn⟩) | ⟨d, hf⟩ | ⟨m', l', hf⟩)
          · exact hi.good.f0m (hi.good.tgm m b l hb).1 hf
          · exact hi.good.bt d m b l hf hb
          · exact hn (hi.good.tgi m n b l l' hb hf ▸ hm)
          · rw [hbx] at hf; cases hf
          · obtain ⟨n, h1, h2⟩ := fr_tg hf
            have := hi.good.tgi n m b l' l h2 hb
            subst this
            exact hOK.pl n hm (ren_src h1)
        · rintro ((hf | ⟨d', hf, hn⟩ | ⟨n, l', hf, _⟩) | ⟨d', hf⟩ | ⟨m', l', hf⟩)
          · exact hi.good.f0m (hi.good.bxm d b hb).1 hf
          · exact hn (hi.good.bxi d d' b hb hf ▸ hd)
          · exact hi.good.bt d n b l' hb hf
          · rw [hbx] at hf; cases hf
          · obtain ⟨n, h1, h2⟩ := fr_tg hf; exact hi.good.bt d n b l' hb h2
      refine ⟨hOK, args_sound hi hOK hf hH' (.refl _) hp hv, hbx, fun n b l hb => ?_, fun n n' b l l' h1 h2 => ?_, fun b hb => ⟨?_, ?_⟩, hi.glob.step hf.step⟩
      · obtain ⟨s, h1, h2⟩ := fr_tg hb
        exact ⟨⟨s, l, ren_src h1, h2⟩, (hi.good.tgm s b l h2).2⟩
      · obtain ⟨s, k1, k2⟩ := fr_tg h1
        obtain ⟨s', k3, k4⟩ := fr_tg h2
        have := hi.good.tgi s s' b l l' k2 k4
        subst this
        exact nodup_src hOK.src k1 k3
      · rcases hb with hb | ⟨d, hb, _⟩ | ⟨n, l, hb, _⟩
        · exact Nat.lt_of_lt_of_le (hi.good.f0 b hb).1 hi.kept.size
        · exact (hi.good.bxm d b hb).2
        · exact (hi.good.tgm n b l hb).2
      · rintro ⟨n, l, hn, hb'⟩
        rcases hb with hb | ⟨d, hb, _⟩ | ⟨n', l', hb, hn', _⟩
        · exact hi.good.f0m (hi.good.tgm n b l hb').1 hb
        · exact hi.good.bt d n b l hb hb'
        · exact hn' (hi.good.tgi n n' b l l' hb' hb ▸ hn)
  · cases hh

theorem callK_sound {f : Nat} {args : List SV} (hR : RunOK X.P X.E run) (hd : ∀ d, o.dst = some d → d < X.n)
    (hargs : ∀ (A : Fr) (a : Act) (w : World), Inv X A σ a.tmps w → ∃ vs : List Value, All2 (RS (X.F A) A w) args vs ∧ (Callable X.P f → (execOp a.eval o).run X.P w = .ok (.enter f vs.toArray) w))
    (h : callK X.E run σ o.dst f args some = some σ') : OpSound X o σ σ' := by
  unfold callK at h
  cases hio : (X.E.sig f).io with
  | true => simp [hio] at h
  | false =>
    simp only [hio, cond_false] at h
    split at h
    · rename_i x H hp hh
      split at h
      · rename_i hrb
        cases hcond : ((X.E.sig f).res.all Kd.isFlat || H.pm.isEmpty) with
        | false => simp [hcond] at h
        | true =>
          simp only [hcond, cond_true, Option.bind_eq_some_iff] at h
          obtain ⟨r, hr, h⟩ := h
          obtain ⟨hcall, hcon⟩ := hR f x r hr
          intro A a w hi hdef next Q hn
          obtain ⟨vs, hvs, hrun⟩ := hargs A a w hi
          obtain ⟨hOK, hA⟩ := argsOK_of hi hh hrb hp hvs
          unfold Oper.wp
          rw [hrun hcall, Oper.upon_enter]
          refine (hcon w _ _ _ vs hA).mono fun e w' hret => ?_
          obtain ⟨v, rfl, hk, hres⟩ := hret
          show next (a.put o.dst v) w'
          generalize hrl : (bif (X.E.sig f).res.all Kd.isFlat then [] else H.pl) = rl at h
          have hrl' : ∀ m ∈ rl, m ∈ H.pl := fun m hm => by
            rw [← hrl] at hm
            cases hfl : (X.E.sig f).res.all Kd.isFlat with
            | true => simp [hfl] at hm
            | false => simpa [hfl] using hm
          cases hdst : o.dst with
          | none =>
            simp only [hdst, Option.some.injEq] at h
            subst h
            have h0 := hi.afterCall (T := ⟨fun _ => none, fun _ => none⟩) hOK (names := []) hrl' hk (fun n b l h => by cases h) (fun n n' b l l' h => by cases h)
            exact hn _ _ w' h0 (by rw [put_defers]; exact hdef)
          | some d =>
            simp only [hdst, Option.some.injEq] at h
            subst h
            obtain ⟨T, hT⟩ := hres d
            have h0 := hi.afterCall hOK (names := ownNames d 0 (X.E.sig f).res) hrl' hk hT.tgm hT.tgi
            refine hn _ _ w' (h0.put (fun d' hd' => hd d' (by rw [hdst]; exact hd')) fun _ => ?_) (by rw [put_defers]; exact hdef)
            cases hfl : (X.E.sig f).res.all Kd.isFlat with
            | true => exact RP.imp (resPV_all fun s hs c hc v => FlatC.move (unpackAll_flat r hfl s hs c hc)) hT.rel
            | false =>
              have hpm : H.pm = [] := by simpa [hfl] using hcond
              simp only [hfl, cond_false] at hrl
              subst hrl
              refine RP.step ?_ ?_ hT.rel
              · refine ⟨fun _ _ _ => rfl, fun b hb => .inl ?_⟩
                rcases hb with hb | ⟨d', hb⟩ | ⟨m, l, hb⟩
                · exact .inl (.inl hb)
                · exact .inl (.inr (.inl ⟨d', hb, by rw [hpm]; simp⟩))
                · simp only [Fr.after] at hb
                  split at hb
                  · exact .inr (.inr ⟨m, l, hb⟩)
                  · split at hb
                    · cases hb
                    · rename_i h2
                      exact .inl (.inr (.inr ⟨m, l, hb, fun h => h2 (.inl h), fun h => h2 (.inr h)⟩))
              · refine resPV_all fun s hs c hc => ?_
                have hnm := unpackAll_named (names := ownNames d 0 (X.E.sig f).res) (d := d) (j := 0) r (fun _ h => h) s hs c hc
                cases c with
                | slice e t xs g => cases g with
                  | own m =>
                    have hm : m ∈ ownNames d 0 (X.E.sig f).res := hnm
                    exact ⟨fun e => by simp [Fr.after, hm, e], fun g l hg => ⟨by simp [Fr.after, hm, hg], rfl⟩⟩
                  | _ => trivial
                | elemT u n i o => exact hnm.elim
                | box d' o => exact fun b hb => by rw [hT.bx] at hb; cases hb
                | _ => trivial
      · cases h
    · cases h

/-! ### the operands of a call -/
theorem evSVs_sound {A : Fr} {a : Act} {w : World} (hi : Inv X A σ a.tmps w) : ∀ {l : List Operand} {svs : List SV}, evSVs σ l = some svs → All2 (RS (X.F A) A w) svs (l.map a.eval)
  | [], svs, h => by simp only [evSVs, Option.some.injEq] at h; subst h; exact .nil
  | x :: r, svs, h => by
    simp only [evSVs] at h
    split at h
    · rename_i s l' hs hl
      cases h
      have hx := ev_sound hi x
      rw [hs] at hx
      exact .cons hx (evSVs_sound hi hl)
    · cases h

theorem typedSVs_sound {A : Fr} {a : Act} {w : World} (hi : Inv X A σ a.tmps w) : ∀ {ts : List TypeId} {svs : List SV} {vs : List Value}, All2 (RS (X.F A) A w) svs vs → All2 (RS (X.F A) A w) (typedSVs X.E ts svs) vs
  | [], svs, vs, h => by cases svs <;> exact h
  | t :: ts, _, _, .nil => .nil
  | t :: ts, s :: ss, v :: vs, .cons h0 h => by
    have h1 : RP (X.F A) A w (X.E.typed t (.sv s)) v := typed_sound t h0
    simp only [typedSVs]
    refine .cons ?_ (typedSVs_sound hi h)
    split
    · rename_i s' hs
      rw [hs] at h1; exact h1
    · exact h0

theorem capSV_sound {F : Nat → Prop} {A : Fr} {w : World} {c : Cap} {v : Value} (h : RCap F w c v) : RS F A w (capSV c) v := by
  unfold RCap at h
  unfold capSV
  cases hp : c.ptr with
  | true => simp only [hp] at h ⊢; exact h
  | false =>
    simp only [hp] at h ⊢
    have hc := h.toPC (A := A)
    have hl := leafs_none (slot := 0) (j := 0) (k := 0) (c.t.toPC c.x)
    simp only [cond_false, Kd.unpack, hl]
    have hlen := h.length
    simp only [List.length_singleton] at hlen
    cases hq : c.t.isPair with
    | true =>
      exfalso
      cases ht : c.t with
      | pair a b => rw [ht] at hlen; have := Ty.sz_pos a; have := Ty.sz_pos b; simp only [Ty.sz] at hlen; omega
      | _ => rw [ht] at hq; cases hq
    | false =>
      simp only [cond_false]
      generalize c.t.toPC c.x = L at hc
      cases hc with
      | cons h0 ht => cases ht; exact h0

theorem caps_all {F : Nat → Prop} {A : Fr} {w : World} : ∀ {l : List Cap} {vs : List Value}, All2 (RCap F w) l vs → All2 (RS F A w) (l.map capSV) vs
  | _, _, .nil => .nil
  | _, _, .cons h0 h => .cons (capSV_sound h0) (caps_all h)

theorem funcall_run {a : Act} {w : World} {c : Call} {fo : Operand} {f : Nat} {vs ws : List Value} (ho : o.op = .call c) (hc : c.callee = .value fo) (hf : a.eval fo = .func (.func f) #[] ws.toArray) (hv : c.args.toList.map a.eval = vs) (hcall : Callable X.P f) :
    (execOp a.eval o).run X.P w = .ok (.enter f (vs ++ ws).toArray) w := by
  have hargs : c.args.map a.eval = vs.toArray := Array.ext' (by simpa using hv)
  have h1 := enter_run hcall (vs ++ ws).toArray w
  simp [execOp, ho, resolve, hc, hf, Deferred.ofValue, invoke, hargs] at h1 ⊢
  simpa using h1

theorem call_sound {c : Call} {fo : Operand} (hE : TypesOK X.P X.E) (hR : RunOK X.P X.E run) (ho : o.op = .call c) (hc : c.callee = .value fo) (hd : ∀ d, o.dst = some d → d < X.n) (h : opK X.E run σ o some = some σ') : OpSound X o σ σ' := by
  simp only [opK, ho, hc] at h
  split at h
  · rename_i f caps args hf hargs
    refine callK_sound hR hd (fun A a w hi => ?_) h
    have hv := ev_sound hi fo
    rw [hf] at hv
    obtain ⟨ws, hfe, hcaps⟩ := hv
    exact ⟨c.args.toList.map a.eval ++ ws, All2.append (typedSVs_sound hi (evSVs_sound hi hargs)) (caps_all hcaps), fun hcall => funcall_run ho hc hfe rfl hcall⟩
  · rename_i q args hf hargs
    split at h
    · rename_i i hti
      split at h
      · rename_i t hty
        split at h
        · rename_i hcond
          obtain ⟨hflat, hagg⟩ := hcond
          simp only [Option.bind_eq_some_iff, Option.some.injEq] at h
          obtain ⟨r, hr, rfl⟩ := h
          unfold callDyn at hr
          cases hio : (X.E.sig q.f).io with
          | true => simp [hio] at hr
          | false =>
            simp only [hio, cond_false] at hr
            split at hr
            · rename_i x H hp hh
              cases hcd : (H.rb.isEmpty && H.srcs.isEmpty) with
              | false => simp [hcd] at hr
              | true =>
                simp only [hcd, cond_true, Option.bind_eq_some_iff] at hr
                obtain ⟨rr, hrun, hcast⟩ := hr
                simp only [Bool.and_eq_true, List.isEmpty_iff] at hcd
                obtain ⟨hrb, hsrc⟩ := hcd
                obtain ⟨hcall, hcon⟩ := hR q.f x rr hrun
                intro A a w hi hdef next Q hn
                have hv := ev_sound hi fo
                rw [hf] at hv
                obtain ⟨ws, hfe, hcaps⟩ := hv
                have hvs : All2 (RS (X.F A) A w) (typedSVs X.E c.argTypes.toList args ++ q.caps.map capSV) (c.args.toList.map a.eval ++ ws) := All2.append (typedSVs_sound hi (evSVs_sound hi hargs)) (caps_all hcaps)
                -- of the frame's state the packing sees nothing
                have hi0 : Inv X A ⟨[], []⟩ a.tmps w := ⟨hi.sz, hi.kept, hi.glob, fun i => trivial, fun d tid cs hd => by simp [getB] at hd, hi.good, fun p hp => by cases hp⟩
                obtain ⟨hOK, hA⟩ := argsOK_of hi0 hh hrb hp hvs
                unfold Oper.wp
                rw [funcall_run ho hc hfe rfl hcall, Oper.upon_enter]
                refine (hcon w _ _ _ _ hA).mono fun e w' hret => ?_
                obtain ⟨v, rfl, hk, hres⟩ := hret
                show next (a.put o.dst v) w'
                have h0 := hi.afterCall (T := ⟨fun _ => none, fun _ => none⟩) hOK (names := []) (rl := []) (fun m hm => by cases hm) hk (fun n b l h => by cases h) (fun n n' b l l' h => by cases h)
                rw [hsrc] at h0
                refine hn _ _ w' (Inv.put (σ := σ) (by simpa only [St.kill, St.release] using h0) hd fun _ => ?_) (by rw [put_defers]; exact hdef)
                obtain ⟨T, hT⟩ := hres 0
                have key : ∀ {ks : List Kd} {rr : Tup ks}, castRes t ks rr = some r → ∀ {F : Nat → Prop} {B : Fr}, RP F B w' (resPV 0 ks rr) v → RP F B w' (.sv (Kd.unpack 0 0 (.v t []) r)) v := by
                  intro ks rr hcast F B hrel
                  unfold castRes at hcast
                  split at hcast
                  · rename_i t' x'
                    split at hcast
                    · rename_i ht
                      subst ht
                      cases hcast
                      exact hrel
                    · cases hcast
                  · cases hcast
                have hrel := key hcast hT.rel
                exact RP.imp (p := .sv _) (fun c hc v => FlatC.move (unpack_flat (k := .v t []) hflat r c hc)) hrel
            · cases hr
        · cases h
      · cases h
    · cases h
  · cases h

end
end Go.Sv
