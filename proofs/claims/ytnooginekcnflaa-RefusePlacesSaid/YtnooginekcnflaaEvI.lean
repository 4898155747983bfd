/- Each operation of the evaluator is sound: cuts, lengths, arithmetic, literals, appends. -/
import Derived.Test.YtnooginekcnflaaEvH
namespace Go.Sv
open Go
set_option linter.unusedVariables false
set_option linter.unusedSimpArgs false

section
variable {X : Ctx} {run : Runs X.E} {o : Oper} {σ σ' : St}

theorem cutOk_iff {lo hi : Int} {n : Nat} (h : cutOk lo hi n = true) : 0 ≤ lo ∧ lo ≤ hi ∧ hi ≤ (n : Int) := by
  unfold cutOk at h
  simpa using h

theorem cut_length {α : Type} {xs : List α} {lo hi : Int} (h : cutOk lo hi xs.length = true) : (cut xs lo hi).length = hi.toNat - lo.toNat := by
  obtain ⟨h1, h2, h3⟩ := cutOk_iff h
  unfold cut
  rw [List.length_drop, List.length_take]; omega

theorem cut_get {α : Type} {xs : List α} {lo hi : Int} {i : Nat} {x : α} (h : (cut xs lo hi)[i]? = some x) : xs[lo.toNat + i]? = some x := by
  unfold cut at h
  rw [List.getElem?_drop, List.getElem?_take] at h
  split at h
  · exact h
  · cases h

/-- A bound that is given, or not. -/
def Bound (v : Option Value) (n dflt : Int) : Prop := (v = none ∧ n = dflt) ∨ ∃ k, v = some (.int k n)

theorem optInt_bound {A : Fr} {a : Act} {w : World} (hi : Inv X A σ a.tmps w) {x : Option Operand} {r : Option Int} (h : optInt σ x = some r) (dflt : Int) :
    Bound (x.map a.eval) (r.getD dflt) dflt ∧ (r = none ↔ x = none) := by
  cases x with
  | none => simp only [optInt, Option.some.injEq] at h; subst h; exact ⟨.inl ⟨rfl, rfl⟩, by simp⟩
  | some x =>
    simp only [optInt] at h
    split at h
    · rename_i k n hx
      cases h
      have hv := ev_sound hi x
      rw [hx] at hv
      have hv' : a.eval x = .int k n := hv
      exact ⟨.inr ⟨k, by simp [hv']⟩, by simp⟩
    · cases h

theorem slice_run {P : Program} {t e : TypeId} {i : TI} (ht : TIOK P t i) (hd : i.d = .slice e) {ie : TypeInfo} (he : P.info? e = some ie) {lo hi mx : Option Value} {l h : Int} {len cap : Nat} (ad : Option Addr)
    (hl : Bound lo l 0) (hh : Bound hi h len) (hm : mx = none ∨ ((∃ k, mx = some (.int k h)) ∧ ∃ v, hi = some v)) (h0 : 0 ≤ l) (h1 : l ≤ h) (h2 : h ≤ (len : Int)) (hc : len ≤ cap) (w : World) :
    ∃ M, (Instr.sliceAt t (.slice ad len cap) lo hi mx).run P w = .ok (.slice (if M = l.toNat then ad else ad.map (·.add (l.toNat * ie.size))) (h.toNat - l.toNat) (M - l.toNat)) w ∧ h.toNat ≤ M ∧ ((mx = none ∧ M = cap) ∨ (mx ≠ none ∧ M = h.toNat)) := by
  obtain ⟨d, hu, hk⟩ := ht.und
  rw [hd] at hk
  cases d with
  | slice e' =>
    have hk' : e = e' := hk
    subst hk'
    obtain ⟨a, rfl⟩ := Int.eq_ofNat_of_zero_le h0
    obtain ⟨b, rfl⟩ := Int.eq_ofNat_of_zero_le (a := h) (by omega)
    have k1 : a ≤ b := by omega
    have k2 : b ≤ len := by omega
    have k3 : b ≤ cap := by omega
    simp only [Int.toNat_natCast]
    rcases hm with rfl | ⟨⟨km, rfl⟩, v, hv⟩
    · refine ⟨cap, ?_, by omega, .inl ⟨rfl, rfl⟩⟩
      rcases hl with ⟨rfl, e1⟩ | ⟨kl, rfl⟩ <;> rcases hh with ⟨rfl, e2⟩ | ⟨kh, rfl⟩
      · have e1' : a = 0 := by omega
        have e2' : b = len := by omega
        subst e1'; subst e2'
        simp [Instr.sliceAt, Instr.slice, run_underlying hu, Instr.sliceBounds, sizeOf, typeInfo, he]
      · have e1' : a = 0 := by omega
        subst e1'
        simp [Instr.sliceAt, Instr.slice, run_underlying hu, Instr.sliceBounds, Instr.sliceBound, asIntOf, sizeOf, typeInfo, he, k3]
      · have e2' : b = len := by omega
        subst e2'
        simp [Instr.sliceAt, Instr.slice, run_underlying hu, Instr.sliceBounds, Instr.sliceBound, asIntOf, sizeOf, typeInfo, he, k1]
      · simp [Instr.sliceAt, Instr.slice, run_underlying hu, Instr.sliceBounds, Instr.sliceBound, asIntOf, sizeOf, typeInfo, he, k1, k3]
    · refine ⟨b, ?_, Nat.le_refl _, .inr ⟨by simp, rfl⟩⟩
      rcases hh with ⟨rfl, e2⟩ | ⟨kh, rfl⟩
      · cases hv
      · rcases hl with ⟨rfl, e1⟩ | ⟨kl, rfl⟩
        · have e1' : a = 0 := by omega
          subst e1'
          simp [Instr.sliceAt, Instr.slice, run_underlying hu, Instr.sliceBounds, Instr.sliceBound, asIntOf, sizeOf, typeInfo, he, k3]
        · simp [Instr.sliceAt, Instr.slice, run_underlying hu, Instr.sliceBounds, Instr.sliceBound, asIntOf, sizeOf, typeInfo, he, k1, k3]
  | _ => exact hk.elim

theorem Cl.cut {F : Nat → Prop} {w : World} {e : TypeId} {u : Ty} {xs : List u.den} {ad : Option Addr} {cap M : Nat} {lo hi : Int} (hok : cutOk lo hi xs.length = true)
    (h : Cl F w (.slice e u) xs [.slice ad xs.length cap]) (hM : hi.toNat ≤ M) :
    Cl F w (.slice e u) (cut xs lo hi) [.slice (if M = lo.toNat then ad else ad.map (·.add (lo.toNat * u.sz))) (hi.toNat - lo.toNat) (M - lo.toNat)] := by
  obtain ⟨h0, h1, h2⟩ := cutOk_iff hok
  rw [Cl] at h ⊢
  obtain ⟨A, c, he, hc, hrow⟩ := h
  simp only [List.cons.injEq, Value.slice.injEq, and_true, true_and] at he
  obtain ⟨rfl, rfl⟩ := he
  rw [cut_length hok]
  refine ⟨_, _, rfl, by omega, ?_⟩
  by_cases hz : Sv.cut xs lo hi = []
  · exact .inl hz
  · right
    have hlen := cut_length hok
    have hpos : 0 < (Sv.cut xs lo hi).length := List.length_pos_iff.2 hz
    have hne : ¬ M = lo.toNat := by omega
    rcases hrow with rfl | ⟨b, rfl, hF, hrow⟩
    · simp [Sv.cut] at hpos
    · refine ⟨b.add (lo.toNat * u.sz), by simp [hne], ?_, fun i x hx => ?_⟩
      · have : (b.add (lo.toNat * u.sz)).block = b.block := by unfold Addr.add; split <;> rfl
        rw [this]; exact hF
      · obtain ⟨ds, hds, hcell⟩ := hrow _ _ (cut_get hx)
        refine ⟨ds, hds, fun j v hj => ?_⟩
        have h3 := hcell j v hj
        rw [Nat.add_mul, Nat.add_assoc] at h3
        have hdl := hds.length
        have hp := Ty.sz_pos u
        refine cell_add w b _ _ v h3 ?_
        have hx0 := spot_none h3
        obtain ⟨bb, bo, bs⟩ := b
        by_cases hm : lo.toNat * u.sz = 0
        · simp only [hm, Nat.zero_add] at hx0 ⊢
          by_cases hij : i * u.sz + j = 0
          · simpa [hij] using hx0
          · obtain ⟨ds0, hd0, hc0⟩ := hrow 0 (xs[0]'(by have := List.getElem?_eq_some_iff.1 (cut_get hx); omega)) (List.getElem?_eq_getElem _)
            have := hd0.length
            have := spot_none (hc0 0 (ds0[0]'(by omega)) (by simp))
            simpa [Addr.add] using this
        · simp [Addr.add, hm]

theorem row_plain {A : Fr} {tm : Array Value} {w : World} (hi : Inv X A σ tm w) {e : TypeId} {u : Ty} {xs : List u.den} {g : Tag} {v : Value} (hv : RC (X.F A) A w (.slice e u xs g) v) :
    ∃ A' ad cap, Inv X A' (σ.release g.names) tm w ∧ v = .slice ad xs.length cap ∧ Cl (X.F A') w (.slice e u) xs [.slice ad xs.length cap] ∧ xs.length ≤ cap ∧ (g = .exact → cap = xs.length) := by
  have key : ∀ {F : Nat → Prop}, Cl F w (.slice e u) xs [v] → ∃ ad cap, v = .slice ad xs.length cap ∧ xs.length ≤ cap := fun h => by
    rw [Cl] at h
    obtain ⟨A, c, he, hc, _⟩ := h
    simp only [List.cons.injEq, and_true] at he
    exact ⟨A, c, he, hc⟩
  cases g with
  | no =>
    obtain ⟨ad, cap, rfl, hc⟩ := key hv
    exact ⟨A, ad, cap, hi, rfl, hv, hc, by simp⟩
  | nil =>
    obtain ⟨rfl, b, rfl⟩ := hv
    exact ⟨A, b, 0, hi, rfl, by rw [Cl]; exact ⟨b, 0, rfl, Nat.le_refl _, .inl rfl⟩, Nat.le_refl _, by simp⟩
  | exact =>
    obtain ⟨hv, b, rfl⟩ := hv
    exact ⟨A, b, _, hi, rfl, hv, Nat.le_refl _, fun _ => rfl⟩
  | own n =>
    obtain ⟨A', h1, _, h2⟩ := hi.release [n]
    have h2' : A' = A.drop [n] := by rcases h2 with ⟨h, _⟩ | h; cases h; exact h
    subst h2'
    have hp : Cl (X.F (A.drop [n])) w (.slice e u) xs [v] := by
      rcases hv with ⟨_, rfl, a, rfl⟩ | ⟨g, k, hg, ho⟩
      · rw [Cl]; exact ⟨a, 0, rfl, Nat.le_refl _, .inl rfl⟩
      · exact (ho.step (Step.drop A [n] X.F0 w) rfl).plain (hi.good.notF hg (List.mem_singleton.2 rfl))
    obtain ⟨ad, cap, rfl, hc⟩ := key hp
    exact ⟨_, ad, cap, h1, rfl, hp, hc, by simp⟩

theorem sliceK_sound {t : TypeId} {x : Operand} {lo hi mx : Option Operand} {i : TI} (hE : TypesOK X.P X.E) (hL : ElemsOK X.P X.E) (ho : o.op = .slice t x lo hi mx) (hd : ∀ d, o.dst = some d → d < X.n) (hti : X.E.ti t = some i)
    (h : sliceK X.E i σ o.dst (σ.ev x) lo hi mx some = some σ') : OpSound X o σ σ' := by
    have ht := hE.ti t i hti
    unfold sliceK at h
    split at h
    · rename_i l0 h0 m0 hl0 hh0 hm0
      split at h
      · -- a string
        rename_i s hx
        cases hid : i.d <;> cases hmx : m0 <;> simp only [hid, hmx] at h <;> try (cases h; done)
        subst hmx
        cases hok : cutOk (l0.getD 0) (h0.getD (s.size : Int)) s.size with
        | false => simp [hok] at h
        | true =>
          simp only [hok, cond_true, Option.some.injEq] at h
          subst h
          obtain ⟨q0, q1, q2⟩ := cutOk_iff hok
          refine .value hd fun A a w hi' => ?_
          have hv := ev_sound hi' x
          rw [hx] at hv
          have hv' : a.eval x = .string s := hv
          have b1 := (optInt_bound hi' hl0 0).1
          have b2 := (optInt_bound hi' hh0 (s.size : Int)).1
          have b3 : mx = none := (optInt_bound hi' hm0 0).2.1 rfl
          generalize l0.getD 0 = l at *
          generalize h0.getD (s.size : Int) = hh at *
          obtain ⟨d, hu, hk⟩ := ht.und
          rw [hid] at hk
          refine ⟨.string (s.extract l.toNat hh.toNat), ?_, rfl⟩
          cases d <;> try exact hk.elim
          obtain ⟨ln, rfl⟩ := Int.eq_ofNat_of_zero_le q0
          obtain ⟨hn, rfl⟩ := Int.eq_ofNat_of_zero_le (a := hh) (by omega)
          have k1 : ln ≤ hn := by omega
          have k2 : hn ≤ s.size := by omega
          simp only [Int.toNat_natCast]
          have e1 : (execOp a.eval o).run X.P w = ((Instr.sliceAt t (.string s) (lo.map a.eval) (hi.map a.eval) (mx.map a.eval)).run X.P w).andThen fun v w' => .ok (.value v) w' := by
            simp [execOp, ho, hv']
          rw [e1, b3]
          rcases b1 with ⟨e1, e3⟩ | ⟨kl, e1⟩ <;> rcases b2 with ⟨e2, e4⟩ | ⟨kh, e2⟩ <;> rw [e1, e2]
          · have e3' : ln = 0 := by omega
            have e4' : hn = s.size := by omega
            subst e3'; subst e4'
            simp [Instr.sliceAt, Instr.slice, run_underlying hu, Instr.sliceBounds]
          · have e3' : ln = 0 := by omega
            subst e3'
            simp [Instr.sliceAt, Instr.slice, run_underlying hu, Instr.sliceBounds, Instr.sliceBound, asIntOf, k2]
          · have e4' : hn = s.size := by omega
            subst e4'
            simp [Instr.sliceAt, Instr.slice, run_underlying hu, Instr.sliceBounds, Instr.sliceBound, asIntOf, k1]
          · simp [Instr.sliceAt, Instr.slice, run_underlying hu, Instr.sliceBounds, Instr.sliceBound, asIntOf, k1, k2]
      · rename_i e u xs g hx
        simp only at h
        by_cases hty : i.ty = some (.slice e u)
        · simp only [hty, if_true] at h
          obtain ⟨e', he', ie, hie, hsz⟩ := hL.row t i e u hti hty
          have main : ∀ (l hh : Int) (tag : Tag) (M0 : Prop), cutOk l hh xs.length = true → σ' = (σ.release g.names).put o.dst (.sv (.one (.slice e u (cut xs l hh) tag))) →
              (tag = .nil → g = .nil) → (∀ (A : Fr) (a : Act) (w : World), Inv X A σ a.tmps w → Bound (lo.map a.eval) l 0 ∧ Bound (hi.map a.eval) hh xs.length ∧ (mx.map a.eval = none ∨ ((∃ k, mx.map a.eval = some (.int k hh)) ∧ ∃ v, hi.map a.eval = some v))) →
              (tag = .nil ∨ tag = .no ∨ (tag = .exact ∧ (mx ≠ none ∨ (g = .exact ∧ hh = xs.length)))) → OpSound X o σ σ' := by
            intro l hh tag _ hok hσ hnil hb htag A a w hi0 hdef next Q hn
            subst hσ
            obtain ⟨q0, q1, q2⟩ := cutOk_iff hok
            have hx0 := ev_sound hi0 x
            rw [hx] at hx0
            obtain ⟨A', ad, cap, hi', he, hc, hcap, hex⟩ := row_plain hi0 hx0
            obtain ⟨b1, b2, b3⟩ := hb A a w hi0
            obtain ⟨M, hr, hM, hMc⟩ := slice_run ht he' hie ad b1 b2 b3 q0 q1 q2 hcap w
            have hcut := Cl.cut hok hc hM
            rw [hsz] at hr
            have hlen := cut_length hok
            refine wp_value (v := .slice (if M = l.toNat then ad else ad.map (·.add (l.toNat * u.sz))) (hh.toNat - l.toNat) (M - l.toNat)) (w' := w) ?_ (hn A' _ _ (hi'.put hd fun _ => ?_) (by rw [put_defers]; exact hdef))
            · simp [execOp, ho, he, hr]
            · rcases htag with rfl | rfl | ⟨rfl, htag⟩
              · have := hnil rfl
                subst this
                obtain ⟨rfl, b, hb⟩ := hx0
                rw [he] at hb
                simp only [Value.slice.injEq] at hb
                obtain ⟨_, _, rfl⟩ := hb
                have h0 : hh.toNat = 0 := by simp at q2; omega
                refine ⟨by simp [cut], (if M = l.toNat then ad else ad.map (·.add (l.toNat * u.sz))), ?_⟩
                have hM0 : M = 0 := by rcases hMc with ⟨_, h⟩ | ⟨_, h⟩ <;> omega
                rw [h0, hM0]; simp
              · exact hcut
              · refine ⟨hcut, (if M = l.toNat then ad else ad.map (·.add (l.toNat * u.sz))), ?_⟩
                rw [hlen]
                congr 1
                rcases hMc with ⟨h1, h2⟩ | ⟨h1, h2⟩
                · rcases htag with h3 | ⟨h3, h4⟩
                  · exact absurd (by simpa using h1) h3
                  · have := hex h3; omega
                · omega
          generalize hlv : l0.getD 0 = l at h
          generalize hhv : h0.getD (xs.length : Int) = hh at h
          cases m0 with
          | none =>
            simp only at h
            cases hok : cutOk l hh xs.length with
            | false => simp [hok] at h
            | true =>
              simp only [hok, cond_true, Option.some.injEq] at h
              refine main l hh _ True hok h.symm (by cases g <;> cases h0 <;> simp) (fun A a w hi0 => ⟨hlv ▸ (optInt_bound hi0 hl0 0).1, hhv ▸ (optInt_bound hi0 hh0 _).1, .inl ?_⟩) ?_
              · simp [(optInt_bound hi0 hm0 0).2.1 rfl]
              · cases g <;> cases h0 <;> simp
                exact .inr (by simpa using hhv.symm)
          | some m =>
            simp only at h
            cases h0 with
            | none => cases h
            | some hv0 =>
              simp only at h
              cases hok : cutOk l hh xs.length with
              | false => simp [hok] at h
              | true =>
                by_cases hm : m = hh
                · simp only [hok, hm, decide_true, Bool.and_true, cond_true, Option.some.injEq] at h
                  have hmx : mx ≠ none := fun e => by subst e; simp [optInt] at hm0
                  have hhi : hi ≠ none := fun e => by subst e; simp [optInt] at hh0
                  refine main l hh .exact True hok h.symm (by simp) (fun A a w hi0 => ⟨hlv ▸ (optInt_bound hi0 hl0 0).1, hhv ▸ (optInt_bound hi0 hh0 _).1, .inr ⟨?_, ?_⟩⟩) (.inr (.inr ⟨rfl, .inl hmx⟩))
                  · rcases (optInt_bound hi0 hm0 0).1 with ⟨e1, _⟩ | ⟨k, e1⟩
                    · exact absurd (by simpa using e1) hmx
                    · exact ⟨k, by rw [e1]; simp [hm]⟩
                  · cases hi with
                    | none => exact absurd rfl hhi
                    | some y => exact ⟨_, rfl⟩
                · simp [hok, hm] at h
        · simp only [hty, if_false] at h; cases h
      · rename_i gg hx
        split at h
        · rename_i e u n n' e' hgl hdd
          split at h
          · rename_i hne
            obtain ⟨rfl, rfl⟩ := hne
            cases h
            refine .value hd fun A a w hi' => ?_
            have hv := ev_sound hi' x
            rw [hx] at hv
            have hv' : a.eval x = .pointer (some ⟨gg, 0, none⟩) := hv
            have c1 := (optInt_bound hi' hl0 0).2.1 rfl
            have c2 := (optInt_bound hi' hh0 0).2.1 rfl
            have c3 := (optInt_bound hi' hm0 0).2.1 rfl
            subst c1; subst c2; subst c3
            obtain ⟨d, hu, hk⟩ := ht.und
            rw [hdd] at hk
            obtain ⟨g1, g2⟩ := hi'.glob gg _ _ _ hgl
            cases d <;> try exact hk.elim
            obtain ⟨rfl, rfl⟩ := hk
            refine ⟨.slice (some ⟨gg, 0, none⟩) n' n', ?_, g2, some ⟨gg, 0, none⟩, by rw [g1]⟩
            obtain ⟨ie, hie⟩ := hL.arr t i n' e' hti hdd
            simp [execOp, ho, hv', Instr.sliceAt, run_underlying hu, Instr.sureAddr, Instr.sliceBounds, sizeOf, typeInfo, hie, Addr.add]
          · cases h
        · cases h
      · cases h
    · cases h

end
end Go.Sv
