/- A loop's shape, a callee's arguments, a function's results: what is handed on, all of it. What a function promises. -/
import Derived.Test.YtnooginekcnflaaEvN
namespace Go.Sv
open Go
set_option linter.unusedVariables false
set_option linter.unusedSimpArgs false

theorem hand_sub {σ : St} {slot j : Nat} {k : Kd} {s : SV} {h h' : Hand} (e : k.hand σ slot j s h = some h') : h.Sub h' := by
  cases k with
  | v t own => simp only [Kd.hand] at e; exact leafHand_sub e
  | n _ _ => simp only [Kd.hand, Option.some.injEq] at e; subst e; exact .refl _
  | f => simp only [Kd.hand, Option.some.injEq] at e; subst e; exact .refl _
  | p t =>
    cases s with
    | agg cs => simp only [Kd.hand, Option.some.injEq] at e; subst e; exact .refl _
    | one c =>
      cases c with
      | box d o =>
        simp only [Kd.hand] at e
        split at e
        · cases e
          exact ⟨fun _ h => h, fun _ h => List.mem_append_right _ h, fun _ h => h, fun _ h => List.mem_cons_of_mem _ h⟩
        · cases e
      | _ => simp only [Kd.hand, Option.some.injEq] at e; subst e; exact .refl _
  | b t tid own =>
    cases s with
    | agg cs => simp [Kd.hand] at e
    | one c =>
      cases c with
      | box d o =>
        cases o with
        | succ o => simp [Kd.hand] at e
        | zero =>
          simp only [Kd.hand] at e
          split at e
          · exact sub_rb (leafHand_sub e)
          · cases e
      | _ => simp [Kd.hand] at e

theorem handAll_sub {σ : St} : ∀ {ks : List (Nat × Nat × Kd)} {l : List SV} {h h' : Hand}, handAll σ ks l h = some h' → h.Sub h'
  | [], l, h, h', e => by
    cases l <;> simp only [handAll, Option.some.injEq] at e <;> subst e <;> exact .refl _
  | (i, j, k) :: ks, [], h, h', e => by simp only [handAll, Option.some.injEq] at e; subst e; exact .refl _
  | (i, j, k) :: ks, s :: ss, h, h', e => by
    simp only [handAll] at e
    split at e
    · rename_i h1 h2
      exact (hand_sub h2).trans (handAll_sub e)
    · cases e

theorem getB_mem : ∀ {l : List (Nat × (TypeId × List PC))} {i : Nat} {v : TypeId × List PC}, getB l i = some v → (i, v) ∈ l
  | (j, q) :: r, i, v, h => by
    simp only [getB] at h
    cases hb : Nat.beq j i with
    | true =>
      simp only [hb, cond_true, Option.some.injEq] at h
      rw [Nat.eq_of_beq_eq_true hb, h]; exact List.mem_cons_self ..
    | false =>
      simp only [hb, cond_false] at h
      exact List.mem_cons_of_mem _ (getB_mem h)
theorem getS_mem : ∀ (l : List (Nat × PV)) (i : Nat), getS l i = .undef ∨ (i, getS l i) ∈ l
  | [], i => .inl rfl
  | (j, q) :: r, i => by
    simp only [getS]
    cases hb : Nat.beq j i with
    | true => right; rw [Nat.eq_of_beq_eq_true hb]; exact List.mem_cons_self ..
    | false =>
      rcases getS_mem r i with h | h
      · exact .inl h
      · exact .inr (List.mem_cons_of_mem _ h)

section
variable {X : Ctx} {σ : St}

theorem box_item {A : Fr} {tm : Array Value} {w : World} {H : Hand} {F' : Nat → Prop} (hi : Inv X A σ tm w) (hH : H.OK) (hf : Fits X A w H F') {slot j : Nat} {t : Ty} {tid : TypeId} {own : List Nat} {s : SV} {h h' : Hand} {x : t.den} {v : Value}
    (he : (Kd.b t tid own).hand σ slot j s h = some h') (hs : h'.Sub H) (hp : (Kd.b t tid own).pack σ s = some x) :
    ∃ b vs, (H.fr A).bx slot = some b ∧ w.heap[b]? = some (.cells vs tid (0, 0)) ∧ RCs F' (H.fr A) w (leafs own slot 0 0 (t.toPC x)) vs.toList := by
  cases s with
  | agg cs => simp [Kd.pack] at hp
  | one c =>
    cases c with
    | box d o =>
      cases o with
      | succ o => simp [Kd.pack] at hp
      | zero =>
        simp only [Kd.hand] at he
        simp only [Kd.pack] at hp
        split at he
        · rename_i tid' cs hb
          simp only [hb] at hp
          split at hp
          · rename_i ht
            subst ht
            have hin : (d, slot) ∈ H.rb := (leafHand_sub he |>.trans hs).rb _ (List.mem_cons_self ..)
            obtain ⟨b, vs, hbx, hh, hcs⟩ := hi.box d _ cs hb
            exact ⟨b, vs, by simp [Hand.fr, lookB_mem hH.b2 hin, hbx], hh, leaf_sound hi.good hH hf he hs (same_of hp) hcs⟩
          · cases hp
        · cases he
    | _ => simp [Kd.pack] at hp

theorem fr_bx {H : Hand} {A : Fr} {d b : Nat} (h : (H.fr A).bx d = some b) : ∃ s, (s, d) ∈ H.rb ∧ A.bx s = some b := by
  simp only [Hand.fr] at h
  cases hl : lookB H.rb d with
  | none => simp [hl] at h
  | some s => simp only [hl, Option.bind_some] at h; exact ⟨s, lookB_some hl, h⟩
theorem fr_tg {H : Hand} {A : Fr} {m b l : Nat} (h : (H.fr A).tg m = some (b, l)) : ∃ n, (some n, m) ∈ H.ren ∧ A.tg n = some (b, l) := by
  simp only [Hand.fr] at h
  cases hl : lookT H.ren m with
  | none => simp [hl] at h
  | some s => simp only [hl, Option.bind_some] at h; exact ⟨s, lookT_some hl, h⟩
theorem ren_src {H : Hand} {n m : Nat} (h : (some n, m) ∈ H.ren) : n ∈ H.srcs := List.mem_filterMap.2 ⟨_, h, rfl⟩

/-! ### the shape of a loop -/
theorem slots_sound {A : Fr} {tm : Array Value} {w : World} {H : Hand} {F' : Nat → Prop} (hi : Inv X A σ tm w) (hH : H.OK) (hf : Fits X A w H F') : ∀ {hs : Shape} {l : List SV} {h h' : Hand} {x : Tup hs.ks},
    shapeSVs σ hs = some l → handAll σ (shapeSlots hs) l h = some h' → h'.Sub H → packAll σ hs.ks l = some x →
    (∀ p ∈ slotsOf hs x, RP F' (H.fr A) w p.2 (tm.getD p.1 undef)) ∧ ∀ p ∈ boxesOf hs x, ∃ b vs, (H.fr A).bx p.1 = some b ∧ w.heap[b]? = some (.cells vs p.2.1 (0, 0)) ∧ RCs F' (H.fr A) w p.2.2 vs.toList
  | [], l, h, h', x, h1, h2, h3, h4 => ⟨fun p hp => (List.not_mem_nil hp).elim, fun p hp => (List.not_mem_nil hp).elim⟩
  | [(i, k)], l, h, h', x, h1, h2, h3, h4 => by
    simp only [shapeSVs] at h1
    split at h1
    · rename_i s l' hs hl'
      cases hl'
      cases h1
      simp only [shapeSlots, handAll] at h2
      split at h2
      · rename_i h5 h6
        have h2' := h2
        simp only [Option.some.injEq] at h2
        subst h2
        have h4' : k.pack σ s = some x := h4
        have hv := hi.slot i
        rw [hs] at hv
        refine ⟨fun p hp => ?_, fun p hp => ?_⟩
        · simp only [slotsOf, List.mem_singleton] at hp
          subst hp
          exact item_sound hi hH hf h6 h3 h4' hv
        · cases k with
          | b t tid own =>
            simp only [boxesOf, List.mem_singleton] at hp
            subst hp
            exact box_item hi hH hf (v := tm.getD i undef) h6 h3 h4'
          | _ => simp only [boxesOf] at hp; cases hp
      · cases h2
    · cases h1
  | (i, k) :: (i', k') :: hs, l, h, h', x, h1, h2, h3, h4 => by
    unfold shapeSVs at h1
    split at h1
    · rename_i s l' hs' hl'
      cases h1
      simp only [shapeSlots, handAll] at h2
      split at h2
      · rename_i h5 h6
        have h4' : packAll σ (k :: k' :: Shape.ks hs) (s :: l') = some x := h4
        rw [packAll] at h4'
        split at h4'
        · rename_i x1 x2 hx1 hx2
          cases h4'
          have hv := hi.slot i
          rw [hs'] at hv
          obtain ⟨r1, r2⟩ := slots_sound hi hH hf (hs := (i', k') :: hs) (x := x2) hl' (by simpa only [shapeSlots] using h2) h3 hx2
          refine ⟨fun p hp => ?_, fun p hp => ?_⟩
          · simp only [slotsOf, List.mem_cons] at hp
            rcases hp with rfl | hp
            · exact item_sound hi hH hf h6 ((handAll_sub h2).trans h3) hx1 hv
            · exact r1 p hp
          · cases k with
            | b t tid own =>
              simp only [boxesOf, List.mem_cons] at hp
              rcases hp with rfl | hp
              · exact box_item hi hH hf (v := tm.getD i undef) h6 ((handAll_sub h2).trans h3) hx1
              · exact r2 p hp
            | _ => simp only [boxesOf] at hp; exact r2 p hp
        · cases h4'
      · cases h2
    · cases h1

theorem shape_sound {A : Fr} {tm : Array Value} {w : World} (hi : Inv X A σ tm w) {hs : Shape} {x : Tup hs.ks} (h : packShape σ hs = some x) : ∃ A', Inv X A' (stOf hs x) tm w := by
  unfold packShape at h
  split at h
  · rename_i l hl
    split at h
    · rename_i H hH
      unfold handed at hH
      split at hH
      · rename_i H' hH'
        cases hok : H'.ok with
        | false => simp [hok] at hH
        | true =>
          simp only [hok, cond_true, Option.some.injEq] at hH
          subst hH
          have hOK := Hand.ok_iff hok
          have hsub : ∀ b, X.F (H'.fr A) b → X.F A b := fun b hb => by
            rcases hb with hb | ⟨d, hb⟩ | ⟨m, l, hb⟩
            · exact .inl hb
            · obtain ⟨s, _, h2⟩ := fr_bx hb; exact .inr (.inl ⟨s, h2⟩)
            · obtain ⟨n, _, h2⟩ := fr_tg hb; exact .inr (.inr ⟨n, l, h2⟩)
          have hf : Fits X A w H' (X.F (H'.fr A)) := by
            refine ⟨⟨fun _ _ _ => rfl, fun b hb => .inl (hsub b hb)⟩, fun m hm b l hb => ?_, fun d hd b hb => ?_⟩
            · rintro (hf | ⟨d, hf⟩ | ⟨m', l', hf⟩)
              · exact hi.good.f0m (hi.good.tgm m b l hb).1 hf
              · obtain ⟨s, _, h2⟩ := fr_bx hf; exact hi.good.bt s m b l h2 hb
              · obtain ⟨n, h1, h2⟩ := fr_tg hf
                have := hi.good.tgi n m b l' l h2 hb
                subst this
                exact hOK.pl n hm (ren_src h1)
            · rintro (hf | ⟨d', hf⟩ | ⟨m', l', hf⟩)
              · exact hi.good.f0m (hi.good.bxm d b hb).1 hf
              · obtain ⟨s, h1, h2⟩ := fr_bx hf
                have := hi.good.bxi s d b h2 hb
                subst this
                exact hOK.pm s hd (List.mem_map.2 ⟨_, h1, rfl⟩)
              · obtain ⟨n, h1, h2⟩ := fr_tg hf; exact hi.good.bt d n b l' hb h2
          obtain ⟨r1, r2⟩ := slots_sound hi hOK hf hl hH' (.refl _) h
          refine ⟨H'.fr A, hi.sz, hi.kept, hi.glob.step hf.step, fun i => ?_, fun d tid cs hd => ?_, ?_, fun p hp => ⟨_, r1 p hp⟩⟩
          · rcases getS_mem (slotsOf hs x) i with h1 | h1
            · show RP _ _ _ (getS (slotsOf hs x) i) _
              rw [h1]; trivial
            · exact r1 _ h1
          · exact r2 _ (getB_mem hd)
          · refine ⟨fun d b hb => ?_, fun n b l hb => ?_, fun d d' b h1 h2 => ?_, fun n n' b l l' h1 h2 => ?_, fun d n b l h1 h2 => ?_, hi.good.f0⟩
            · obtain ⟨s, _, h2⟩ := fr_bx hb; exact hi.good.bxm s b h2
            · obtain ⟨s, _, h2⟩ := fr_tg hb; exact hi.good.tgm s b l h2
            · obtain ⟨s, k1, k2⟩ := fr_bx h1
              obtain ⟨s', k3, k4⟩ := fr_bx h2
              have := hi.good.bxi s s' b k2 k4
              subst this
              exact nodup_fst hOK.b1 k1 k3
            · obtain ⟨s, k1, k2⟩ := fr_tg h1
              obtain ⟨s', k3, k4⟩ := fr_tg h2
              have := hi.good.tgi s s' b l l' k2 k4
              subst this
              exact nodup_src hOK.src k1 k3
            · obtain ⟨s, k1, k2⟩ := fr_bx h1
              obtain ⟨s', k3, k4⟩ := fr_tg h2
              exact hi.good.bt s s' b l k2 k4
      · cases hH
    · cases h
  · cases h

end
end Go.Sv
