/- Code, functions: what the evaluator tells is what the model does. -/
import Derived.Test.YtnooginekcnflaaEvZ
namespace Go.Sv
open Go
set_option linter.unusedVariables false
set_option linter.unusedSimpArgs false

def dstsOK (n : Nat) : Code → Bool
  | .region _ ops _ => ops.toList.all fun o => match o.dst with | some d => decide (d < n) | none => true
  | .seq a b => dstsOK n a && dstsOK n b
  | .cond _ a b => dstsOK n a && dstsOK n b
  | .block _ c => dstsOK n c
  | .loop c => dstsOK n c
  | .scope c => dstsOK n c
  | _ => true

section
variable {X : Ctx} {run : Runs X.E} {fuel f : Nat}

theorem CodeSound.seq {c d : Code} {σ σ1 σ' : St} {e : Ex} (h1 : CodeSound X c σ .normal σ1) (h2 : CodeSound X d σ1 e σ') : CodeSound X (.seq c d) σ e σ' :=
  fun A a w Q hi hd hq => wp_seq (h1 A a w _ hi hd fun A' a' w' hi' hd' => h2 A' a' w' Q hi' hd' hq)
theorem CodeSound.seq_out {c d : Code} {σ σ' : St} {e : Ex} (he : e ≠ .normal) (h1 : CodeSound X c σ e σ') : CodeSound X (.seq c d) σ e σ' :=
  fun A a w Q hi hd hq => wp_seq (h1 A a w _ hi hd fun A' a' w' hi' hd' => by
    cases e with
    | normal => exact absurd rfl he
    | _ => exact hq A' a' w' hi' hd')

theorem loop_sound {c : Code} {ex : List Ex} {hs os : Shape} {body : St → (Ex → St → Option (Nat × Tup os.ks)) → Option (Nat × Tup os.ks)}
    (hb : ∀ σ K r, body σ K = some r → ∃ e σ', K e σ' = some r ∧ CodeSound X c σ e σ') : ∀ (n : Nat) (x : Tup hs.ks) (i : Nat) (y : Tup os.ks), loopT (hs := hs) (os := os) ex body n x = some (i, y) →
      ∃ e, idxEx e ex 0 = some i ∧ ∀ (A : Fr) (a : Act) (w : World) (Q : Exit → Act → World → Prop), Inv X A (stOf hs x) a.tmps w → a.defers = [] → (∀ A' a' w', Inv X A' (stOf os y) a'.tmps w' → a'.defers = [] → Q e.out a' w') → LoopAt X.P c Q a w
  | 0, x, i, y, h => by simp [loopT] at h
  | n + 1, x, i, y, h => by
    simp only [loopT] at h
    obtain ⟨e, σ', h1, h2⟩ := hb _ _ _ h
    have leave : e ≠ .normal → (match idxEx e ex 0, packShape σ' os with | some i, some y => some (i, y) | _, _ => none) = some (i, y) →
        ∃ e, idxEx e ex 0 = some i ∧ ∀ (A : Fr) (a : Act) (w : World) (Q : Exit → Act → World → Prop), Inv X A (stOf hs x) a.tmps w → a.defers = [] → (∀ A' a' w', Inv X A' (stOf os y) a'.tmps w' → a'.defers = [] → Q e.out a' w') → LoopAt X.P c Q a w := fun hne h1 => by
      split at h1
      · rename_i i' y' hi' hy'
        cases h1
        refine ⟨e, hi', fun A a w Q hi hd hq => LoopAt.pass (h2 A a w _ hi hd fun A' a' w' hi' hd' => ?_)⟩
        obtain ⟨A'', hA''⟩ := shape_sound hi' hy'
        cases e with
        | normal => exact absurd rfl hne
        | _ => exact hq A'' a' w' hA'' hd'
      · cases h1
    cases e with
    | normal =>
      simp only at h1
      split at h1
      · rename_i y' hy'
        obtain ⟨e, he, hl⟩ := loop_sound hb n y' i y h1
        refine ⟨e, he, fun A a w Q hi hd hq => LoopAt.pass (h2 A a w _ hi hd fun A' a' w' hi' hd' => ?_)⟩
        obtain ⟨A'', hA''⟩ := shape_sound hi' hy'
        exact hl A'' a' w' Q hA'' hd' hq
      · cases h1
    | exit id => exact leave (by simp) h1
    | goto l => exact leave (by simp) h1
    | ret => exact leave (by simp) h1

theorem scopeT_sound {c rest : Code} {l : Nat} (hl : findLabel c l = some rest) {ex : List Ex} {hs os : Shape} {body : St → (Ex → St → Option (Nat × Tup os.ks)) → Option (Nat × Tup os.ks)}
    (hb : ∀ σ K r, body σ K = some r → ∃ e σ', K e σ' = some r ∧ CodeSound X rest σ e σ') : ∀ (n : Nat) (x : Tup hs.ks) (i : Nat) (y : Tup os.ks), scopeT (hs := hs) (os := os) l ex body n x = some (i, y) →
      ∃ e, idxEx e ex 0 = some i ∧ e ≠ .goto l ∧ ((∀ l', e = .goto l' → findLabel c l' = none) → ∀ (A : Fr) (a : Act) (w : World) (Q : Exit → Act → World → Prop), Inv X A (stOf hs x) a.tmps w → a.defers = [] → (∀ A' a' w', Inv X A' (stOf os y) a'.tmps w' → a'.defers = [] → Q e.out a' w') → ScopeAt X.P c rest Q a w)
  | 0, x, i, y, h => by simp [scopeT] at h
  | n + 1, x, i, y, h => by
    simp only [scopeT] at h
    obtain ⟨e, σ', h1, h2⟩ := hb _ _ _ h
    have leave : e ≠ .goto l → (match idxEx e ex 0, packShape σ' os with | some i, some y => some (i, y) | _, _ => none) = some (i, y) →
        ∃ e, idxEx e ex 0 = some i ∧ e ≠ .goto l ∧ ((∀ l', e = .goto l' → findLabel c l' = none) → ∀ (A : Fr) (a : Act) (w : World) (Q : Exit → Act → World → Prop), Inv X A (stOf hs x) a.tmps w → a.defers = [] → (∀ A' a' w', Inv X A' (stOf os y) a'.tmps w' → a'.defers = [] → Q e.out a' w') → ScopeAt X.P c rest Q a w) := fun hne h1 => by
      split at h1
      · rename_i i' y' hi' hy'
        cases h1
        refine ⟨e, hi', hne, fun hnl A a w Q hi hd hq => ScopeAt.pass hl (h2 A a w _ hi hd fun A' a' w' hi' hd' => ?_)⟩
        obtain ⟨A'', hA''⟩ := shape_sound hi' hy'
        have := hq A'' a' w' hA'' hd'
        cases e with
        | goto l' => exact .inr ⟨hnl l' rfl, this⟩
        | _ => exact this
      · cases h1
    cases e with
    | goto l' =>
      simp only at h1
      by_cases hll : l' = l
      · subst hll
        simp only [if_true] at h1
        split at h1
        · rename_i y' hy'
          obtain ⟨e, he, hne, hl2⟩ := scopeT_sound hl hb n y' i y h1
          refine ⟨e, he, hne, fun hnl A a w Q hi hd hq => ScopeAt.pass hl (h2 A a w _ hi hd fun A' a' w' hi' hd' => ?_)⟩
          obtain ⟨A'', hA''⟩ := shape_sound hi' hy'
          exact .inl ⟨rfl, hl2 hnl A'' a' w' Q hA'' hd' hq⟩
        · cases h1
      · simp only [hll, if_false] at h1
        exact leave (by simp [hll]) h1
    | normal => exact leave (by simp) h1
    | exit id => exact leave (by simp) h1
    | ret => exact leave (by simp) h1

theorem exec_sound (hT : TabOK X.P X.E) (hR : RunOK X.P X.E run) : ∀ (c : Code), dstsOK X.n c = true → ∀ (cur : Nat) {R : Type} (σ : St) (K : Ex → St → Option R) (r : R),
    (execK X.E run fuel f c cur none σ K = some r → ∃ e σ', K e σ' = some r ∧ CodeSound X c σ e σ') ∧
    ∀ l, execK X.E run fuel f c cur (some l) σ K = some r → ∃ rest, findLabel c l = some rest ∧ ∃ e σ', K e σ' = some r ∧ CodeSound X rest σ e σ' := by
  intro c
  induction c with
  | skip =>
    intro _ cur R σ K r
    refine ⟨fun h => ⟨.normal, σ, h, fun A a w Q hi hd hq => wp_skip (hq A a w hi hd)⟩, fun l h => by simp [execK] at h⟩
  | region id ops dr =>
    intro hok cur R σ K r
    have hd : ∀ o ∈ ops.toList, ∀ d, o.dst = some d → d < X.n := fun o ho d hdst => by
      have := List.all_eq_true.1 hok o ho
      simpa [hdst] using this
    refine ⟨fun h => ?_, fun l h => by simp [execK] at h⟩
    simp only [execK] at h
    cases dr with
    | true =>
      simp only [cond_true] at h
      obtain ⟨σ', h1, h2⟩ := draw_sound (id := id) hT hR hd h
      exact ⟨.normal, σ', h1, h2⟩
    | false =>
      simp only [cond_false] at h
      obtain ⟨σ', h1, h2⟩ := ops_sound hT hR hd ops.toList 0 σ rfl h
      refine ⟨.normal, σ', h1, fun A a w Q hi hdef hq => wp_region ?_⟩
      have := h2 A a w hi hdef Q hq
      rw [Array.length_toList] at this
      rw [List.range_eq_range']; exact this
  | seq a b iha ihb =>
    intro hok cur R σ K r
    simp only [dstsOK, Bool.and_eq_true] at hok
    refine ⟨fun h => ?_, fun l h => ?_⟩
    · simp only [execK] at h
      obtain ⟨e, σ1, h1, h2⟩ := (iha hok.1 cur σ _ r).1 h
      cases e with
      | normal =>
        obtain ⟨e', σ', h3, h4⟩ := (ihb hok.2 cur σ1 K r).1 h1
        exact ⟨e', σ', h3, h2.seq h4⟩
      | exit id => exact ⟨_, σ1, h1, h2.seq_out (by simp)⟩
      | goto l => exact ⟨_, σ1, h1, h2.seq_out (by simp)⟩
      | ret => exact ⟨_, σ1, h1, h2.seq_out (by simp)⟩
    · simp only [execK] at h
      cases hm : mem (labelsOf a) l with
      | true =>
        simp only [hm, cond_true] at h
        obtain ⟨rest, hrest, e, σ1, h1, h2⟩ := (iha hok.1 cur σ _ r).2 l h
        refine ⟨.seq rest b, by simp [findLabel, hrest], ?_⟩
        cases e with
        | normal =>
          obtain ⟨e', σ', h3, h4⟩ := (ihb hok.2 cur σ1 K r).1 h1
          exact ⟨e', σ', h3, h2.seq h4⟩
        | exit id => exact ⟨_, σ1, h1, h2.seq_out (by simp)⟩
        | goto l => exact ⟨_, σ1, h1, h2.seq_out (by simp)⟩
        | ret => exact ⟨_, σ1, h1, h2.seq_out (by simp)⟩
      | false =>
        simp only [hm, cond_false] at h
        obtain ⟨rest, hrest, h2⟩ := (ihb hok.2 cur σ K r).2 l h
        have hnone : findLabel a l = none := labels_none fun hx => by rw [mem_iff.2 hx] at hm; cases hm
        exact ⟨rest, by simp [findLabel, hnone, hrest], h2⟩
  | cond c a b iha ihb =>
    intro hok cur R σ K r
    simp only [dstsOK, Bool.and_eq_true] at hok
    cases c with
    | tmp t =>
      refine ⟨fun h => ?_, fun l h => by simp [execK] at h⟩
      simp only [execK] at h
      split at h
      · rename_i q hq
        have ev : ∀ (A : Fr) (ac : Act) (w : World), Inv X A σ ac.tmps w → ac.eval (.tmp t) = .bool q ∧ Inv X A (σ.put (some t) (.sv (.one (.bool q)))) ac.tmps w := fun A ac w hi => by
          have hv := hi.slot t
          rw [hq] at hv
          exact ⟨hv, hi.reput (d := t) (by exact hv)⟩
        cases q with
        | true =>
          simp only [cond_true] at h
          obtain ⟨e, σ', h1, h2⟩ := (iha hok.1 cur _ K r).1 h
          exact ⟨e, σ', h1, fun A ac w Q hi hd hq => wp_cond_true (ev A ac w hi).1 (h2 A ac w Q (ev A ac w hi).2 hd hq)⟩
        | false =>
          simp only [cond_false] at h
          obtain ⟨e, σ', h1, h2⟩ := (ihb hok.2 cur _ K r).1 h
          exact ⟨e, σ', h1, fun A ac w Q hi hd hq => wp_cond_false (ev A ac w hi).1 (h2 A ac w Q (ev A ac w hi).2 hd hq)⟩
      · cases h
    | _ => exact ⟨fun h => by simp [execK] at h, fun l h => by simp [execK] at h⟩
  | block id c ih =>
    intro hok cur R σ K r
    refine ⟨fun h => ?_, fun l h => by simp [execK] at h⟩
    simp only [execK] at h
    obtain ⟨e, σ', h1, h2⟩ := (ih hok id σ _ r).1 h
    cases e with
    | exit id' =>
      simp only at h1
      by_cases hid : id' = id
      · subst hid
        simp only [if_true] at h1
        exact ⟨.normal, σ', h1, fun A a w Q hi hd hq => wp_block (h2 A a w _ hi hd fun A' a' w' hi' hd' => by
          show Exit.inBlock id' Q (.exit id') a' w'
          simp only [Exit.inBlock, if_true]
          exact hq A' a' w' hi' hd')⟩
      · simp only [hid, if_false] at h1
        exact ⟨.exit id', σ', h1, fun A a w Q hi hd hq => wp_block (h2 A a w _ hi hd fun A' a' w' hi' hd' => by
          show Exit.inBlock id Q (.exit id') a' w'
          simp only [Exit.inBlock, hid, if_false]
          exact hq A' a' w' hi' hd')⟩
    | normal => exact ⟨.normal, σ', h1, fun A a w Q hi hd hq => wp_block (h2 A a w _ hi hd fun A' a' w' hi' hd' => hq A' a' w' hi' hd')⟩
    | goto l => exact ⟨.goto l, σ', h1, fun A a w Q hi hd hq => wp_block (h2 A a w _ hi hd fun A' a' w' hi' hd' => hq A' a' w' hi' hd')⟩
    | ret => exact ⟨.ret, σ', h1, fun A a w Q hi hd hq => wp_block (h2 A a w _ hi hd fun A' a' w' hi' hd' => hq A' a' w' hi' hd')⟩
  | loop c ih =>
    intro hok cur R σ K r
    refine ⟨fun h => ?_, fun l h => by simp [execK] at h⟩
    simp only [execK] at h
    split at h
    · cases h
    · rename_i hs os hshape
      split at h
      · cases h
      · rename_i x hx
        simp only [Option.bind_eq_some_iff] at h
        obtain ⟨⟨i, y⟩, h1, h2⟩ := h
        obtain ⟨e, he, hl⟩ := loop_sound (c := c) (fun σ K r h => (ih hok cur σ K r).1 h) fuel x i y h1
        refine ⟨e, stOf os y, pickEx_at he h2, fun A a w Q hi hd hq => LoopAt.wp ?_⟩
        obtain ⟨A', hA'⟩ := shape_sound hi hx
        exact hl A' a w Q hA' hd hq
  | scope c ih =>
    intro hok cur R σ K r
    refine ⟨fun h => ?_, fun l h => by simp [execK] at h⟩
    simp only [execK] at h
    obtain ⟨e, σ1, h1, h2⟩ := (ih hok cur σ _ r).1 h
    cases e with
    | goto l =>
      simp only at h1
      cases hm : mem (labelsOf c) l with
      | false =>
        simp only [hm, cond_false] at h1
        have hnone : findLabel c l = none := labels_none fun hx => by rw [mem_iff.2 hx] at hm; cases hm
        exact ⟨.goto l, σ1, h1, fun A a w Q hi hd hq => ScopeAt.straight (h2 A a w _ hi hd fun A' a' w' hi' hd' => ⟨hnone, hq A' a' w' hi' hd'⟩)⟩
      | true =>
        simp only [hm, cond_true] at h1
        obtain ⟨rest, hrest⟩ := labels_some (mem_iff.1 hm)
        split at h1
        · rename_i hs os hshape
          split at h1
          · cases h1
          · rename_i x hx
            simp only [Option.bind_eq_some_iff] at h1
            obtain ⟨⟨i, y⟩, h3, h4⟩ := h1
            obtain ⟨e, he, hne, hl⟩ := scopeT_sound hrest (fun σ K r h => by
              obtain ⟨rest', hr', h5⟩ := (ih hok cur σ K r).2 l h
              rw [hrest] at hr'
              cases hr'
              exact h5) fuel x i y h3
            have h5 := pickEx_at he h4
            cases hin : e.inside (labelsOf c) with
            | true => simp [hin] at h5
            | false =>
              simp only [hin, cond_false] at h5
              have hnl : ∀ l', e = .goto l' → findLabel c l' = none := fun l' hl' => labels_none fun hx => by
                subst hl'
                simp only [Ex.inside, mem_iff.2 hx] at hin
                cases hin
              refine ⟨e, stOf os y, h5, fun A a w Q hi hd hq => ScopeAt.wp (ScopeAt.pass hrest (h2 A a w _ hi hd fun A' a' w' hi' hd' => ?_))⟩
              obtain ⟨A'', hA''⟩ := shape_sound hi' hx
              exact .inl ⟨rfl, hl hnl A'' a' w' Q hA'' hd' hq⟩
        · cases h1
    | normal => exact ⟨.normal, σ1, h1, fun A a w Q hi hd hq => ScopeAt.straight (h2 A a w _ hi hd fun A' a' w' hi' hd' => hq A' a' w' hi' hd')⟩
    | exit id => exact ⟨.exit id, σ1, h1, fun A a w Q hi hd hq => ScopeAt.straight (h2 A a w _ hi hd fun A' a' w' hi' hd' => hq A' a' w' hi' hd')⟩
    | ret => exact ⟨.ret, σ1, h1, fun A a w Q hi hd hq => ScopeAt.straight (h2 A a w _ hi hd fun A' a' w' hi' hd' => hq A' a' w' hi' hd')⟩
  | exit id =>
    intro _ cur R σ K r
    exact ⟨fun h => ⟨.exit id, σ, h, fun A a w Q hi hd hq => wp_exit (hq A a w hi hd)⟩, fun l h => by simp [execK] at h⟩
  | goto l' =>
    intro _ cur R σ K r
    exact ⟨fun h => ⟨.goto l', σ, h, fun A a w Q hi hd hq => wp_goto (hq A a w hi hd)⟩, fun l h => by simp [execK] at h⟩
  | ret =>
    intro _ cur R σ K r
    exact ⟨fun h => ⟨.ret, σ, h, fun A a w Q hi hd hq => wp_ret (hq A a w hi hd)⟩, fun l h => by simp [execK] at h⟩
  | label l' =>
    intro _ cur R σ K r
    refine ⟨fun h => ⟨.normal, σ, h, fun A a w Q hi hd hq => wp_label (hq A a w hi hd)⟩, fun l h => ?_⟩
    simp only [execK] at h
    cases hb : Nat.beq l' l with
    | false => simp [hb] at h
    | true =>
      simp only [hb, cond_true] at h
      have := Nat.eq_of_beq_eq_true hb
      subst this
      exact ⟨.skip, by simp [findLabel], .normal, σ, h, fun A a w Q hi hd hq => wp_skip (hq A a w hi hd)⟩
  | _ =>
    intro _ cur R σ K r
    exact ⟨fun h => by simp [execK] at h, fun l h => by simp [execK] at h⟩

end
end Go.Sv
