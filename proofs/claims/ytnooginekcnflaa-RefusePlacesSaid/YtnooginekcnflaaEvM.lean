/- Each operation of the evaluator is sound: cuts of the frame's own rows, rows of zeros, function values. -/
import Derived.Test.YtnooginekcnflaaEvL
namespace Go.Sv
open Go
set_option linter.unusedVariables false
set_option linter.unusedSimpArgs false

section
variable {X : Ctx} {run : Runs X.E} {o : Oper} {σ σ' : St}

theorem slice_sound {t : TypeId} {x : Operand} {lo hi mx : Option Operand} (hE : TypesOK X.P X.E) (hL : ElemsOK X.P X.E) (ho : o.op = .slice t x lo hi mx) (hd : ∀ d, o.dst = some d → d < X.n)
    (h : opK X.E run σ o some = some σ') : OpSound X o σ σ' := by
  simp only [opK, ho] at h
  split at h
  · rename_i i hti
    have ht := hE.ti t i hti
    cases hpos : (o.pos == "slices.go:428") with
    | true =>
      simp only [hpos, cond_true] at h
      split at h
      · rename_i e u xs g hh d hx hhi hdst
        by_cases hty : i.ty = some (.slice e u)
        · simp only [hty, if_true] at h
          cases hok : cutOk 0 hh xs.length with
          | false => simp [hok] at h
          | true =>
            simp only [hok, cond_true, Option.some.injEq] at h
            subst h
            obtain ⟨q0, q1, q2⟩ := cutOk_iff hok
            obtain ⟨e', he', ie, hie, hsz⟩ := hL.row t i e u hti hty
            intro A a w hi0 hdef next Q hn
            have hv := ev_sound hi0 x
            rw [hx] at hv
            have hb := (optInt_bound hi0 hhi (xs.length : Int)).1
            have hlen := cut_length hok
            have hlh : (cut xs 0 hh).length = hh.toNat := by rw [hlen]; simp
            have fin : ∀ ad cap, a.eval x = .slice ad xs.length cap → xs.length ≤ cap → (∃ A', Inv X A' (σ.kill [g, tagOf d 0 0]) a.tmps w ∧ RC (X.F A') A' w (.slice e u (cut xs 0 hh) (.own (tagOf d 0 0))) (.slice ad hh.toNat cap)) →
                o.wp X.P a w next Q := fun ad cap he hcap ⟨A', hi', hc'⟩ => by
              obtain ⟨M, hr, hM, hMc⟩ := slice_run (lo := none) (mx := none) ht he' hie ad (.inl ⟨rfl, rfl⟩) hb (.inl rfl) q0 q1 q2 hcap w
              have hMcap : M = cap := by
                rcases hMc with ⟨_, h⟩ | ⟨h, _⟩
                · exact h
                · exact absurd rfl h
              subst hMcap
              have had : (if M = (0 : Int).toNat then ad else ad.map (·.add ((0 : Int).toNat * ie.size))) = ad := by
                split
                · rfl
                · cases ad <;> simp [Addr.add]
              refine wp_value (v := .slice ad hh.toNat M) (w' := w) ?_ (hn A' _ _ ?_ (by rw [put_defers]; exact hdef))
              · rw [had] at hr
                simp only [execOp, ho, he, Option.map_none, Sem.run_bind, hr, Result.andThen_ok]
                simp
              · rw [hdst]
                exact hi'.put (fun d' hd' => hd d' (by rw [hdst]; exact hd')) fun _ => hc'
            rcases hv with ⟨htg, rfl, b, he⟩ | ⟨b, l, htg, hl, cap, cur, he, hheap, h1, h2, h3, h4⟩
            · refine fin b 0 he (Nat.le_refl _) ?_
              obtain ⟨A', h5, h6⟩ := hi0.kill [g, tagOf d 0 0]
              have h0 : hh.toNat = 0 := by simp at q2; omega
              refine ⟨A', h5, .inl ⟨?_, by simp [cut], b, by rw [h0]⟩⟩
              rcases h6 with ⟨h6, _⟩ | rfl
              · cases h6
              · simp [Fr.drop, mem, Nat.beq_refl]
            · subst hl
              refine fin _ cap he h1 ⟨_, hi0.newTag (l := [g, tagOf d 0 0]) (n := tagOf d 0 0) (g := b) (len := (cut xs 0 hh).length) (by simp) (fun _ _ _ => rfl) hi0.kept (hi0.good.tgm g b _ htg) (Nat.le_refl _) (.inr ⟨g, _, htg, by simp⟩),
                .inr ⟨b, (cut xs 0 hh).length, by simp [Fr.setTg], rfl, cap, cur, by rw [hlh], hheap, by omega, h2, h3, fun k y hk => ?_⟩⟩
              have := cut_get hk
              simp only [Int.toNat_zero, Nat.zero_add] at this
              obtain ⟨ds, hds, hc⟩ := h4 k y this
              exact ⟨ds, hds.step (newTag_step (fun _ _ _ => rfl) (.inl (.inr (.inr ⟨g, _, htg⟩)))), hc⟩
        · simp only [hty, if_false] at h; cases h
      · exact sliceK_sound hE hL ho hd hti h
    | false =>
      simp only [hpos, cond_false] at h
      exact sliceK_sound hE hL ho hd hti h
  · cases h

/-! ### rows of zeros -/
theorem zeros_run {P : Program} {ty ty' e : TypeId} {k : IntKind} {tt : TypeId} {ti : TypeInfo} {z : Value} (ht : P.underlying ty = some (.slice e)) (ht' : P.underlying ty' = some (.int k)) (hi : P.info? e = some ti) (hz : ti.zero = some z) (hs : z.cells.size = ti.size) (hp : 0 < ti.size)
    (ad : Option Addr) (n : Nat) (hn : n ≠ 0) (hmax : n ≤ maxLen) (hroom : n * ti.bytes ≤ 140737488355328) (w : World) :
    (Builtin.append_ #[ty, ty'] tt #[.slice ad 0 0, .int .i64 n]).run P w =
      .ok (.slice (some ⟨w.heap.size, 0, none⟩) n (grownCap w n 0 e)) (w.drew.alloc (.cells (Builtin.zeroCells z.cells n ++ Builtin.zeroCells z.cells (grownCap w n 0 e - n)) e)) := by
  have hw : IntKind.i64.wrap (n : Int) = (n : Int) := by
    have : n ≤ 9223372036854775807 := by simp only [maxLen] at hmax; omega
    have e1 : (n : Int) % 18446744073709551616 = n := by omega
    show (if (true && decide ((n : Int) % 18446744073709551616 ≥ 9223372036854775808)) = true then _ else _) = _
    rw [if_neg (by simp; omega)]
    exact e1
  have h63 : ¬ (9223372036854775807 < (n : Int)) := by simp only [maxLen] at hmax; omega
  have h48' : ¬ (281474976710656 < Builtin.nextslicecap n 0 * ti.bytes) := by rw [nextslicecap_zero (by omega)]; omega
  have h48 : ¬ (281474976710656 < (n : Int) * (ti.bytes : Int)) := by
    have : ((n * ti.bytes : Nat) : Int) ≤ ((140737488355328 : Nat) : Int) := Int.ofNat_le.2 hroom
    rw [Int.natCast_mul] at this; omega
  have hns : n * ti.size ≠ 0 := Nat.mul_ne_zero hn (by omega)
  have h0 : ¬ ((n : Int) < 0) := by omega
  cases ad <;> simp [Builtin.append_, run_underlying ht, run_underlying ht', sizeOf, typeInfo, zeroValue, hi, hz, asInt, asIntOf, hw, h0, h48, hn, h63, h48', Question.forced, Builtin.firstCells, newRow, grownCap, hns, loadCells, loadCellsFrom]

theorem zeroCells_get (z : Array Value) (n i j : Nat) (v : Value) (hi : i < n) (hj : z[j]? = some v) : (Builtin.zeroCells z n)[i * z.size + j]? = some v := by
  have hjl := (Array.getElem?_eq_some_iff.1 hj).1
  have h1 : (i + 1) * z.size ≤ n * z.size := Nat.mul_le_mul_right _ hi
  rw [Nat.add_mul, Nat.one_mul] at h1
  unfold Builtin.zeroCells
  rw [Array.getElem?_map, Array.getElem?_range, if_pos (by omega), Option.map_some, Nat.mul_comm i, Nat.mul_add_mod, Nat.mod_eq_of_lt hjl, getElem!_def, hj]

theorem append_sound {c : Call} (hE : TypesOK X.P X.E) (ho : o.op = .call c) (hc : c.callee = .builtin .append) (hd : ∀ d, o.dst = some d → d < X.n) (h : opK X.E run σ o some = some σ') : OpSound X o σ σ' := by
  simp only [opK, ho, hc] at h
  split at h
  · rename_i s x ty ty' hargs htys
    by_cases hty : ty = ty'
    · subst hty
      simp only [if_true] at h
      exact appendK_sound hE ho hc hargs htys hd h
    · simp only [hty, if_false] at h
      unfold appendZK at h
      split at h
      · rename_i i i' d hti hti' hdst
        have ht := hE.ti ty i hti
        obtain ⟨dd, hu, hk⟩ := ht.und
        obtain ⟨dd', hu', hk'⟩ := (hE.ti ty' i' hti').und
        split at h
        · rename_i e k e' u hid hid' hity
          split at h
          · rename_i ie e1 u1 xs1 n hte hs hx
            have hte' := hE.ti e ie hte
            split at h
            · rename_i hcond
              obtain ⟨rfl, rfl, rfl, hpos, hsz, hzu, hety⟩ := hcond
              cases hok : (decide (0 ≤ n) && roomOk n.toNat ie.bytes) with
              | false => simp [hok] at h
              | true =>
                simp only [hok, cond_true, Option.some.injEq] at h
                subst h
                simp only [Bool.and_eq_true, decide_eq_true_eq] at hok
                obtain ⟨h0, hroom⟩ := hok
                have hroom' := roomOk_iff hroom
                have hbp := hte'.pos hpos
                intro A a w hi0 hdef next Q hn
                have hv := ev_sound hi0 s
                rw [hs] at hv
                obtain ⟨_, ad, he⟩ := hv
                have hv2 := ev_sound hi0 x
                rw [hx] at hv2
                have he2 : a.eval x = .int .i64 n := hv2
                rw [hid] at hk
                cases dd <;> try exact hk.elim
                have hk2 : e1 = _ := hk
                subst hk2
                rw [hid'] at hk'
                cases dd' <;> try exact hk'.elim
                obtain ⟨ti, hi1, hi2, hi3, z, hz, hzs, hzv⟩ := hte'.info
                obtain ⟨m, rfl⟩ := Int.eq_ofNat_of_zero_le h0
                simp only [Int.toNat_natCast] at hroom' hn ⊢
                have fin : ∀ v w', (Builtin.append_ #[ty, ty'] o.type #[.slice ad 0 0, .int .i64 m]).run X.P w = .ok v w' → (∃ A', Inv X A' (σ.kill [tagOf d 0 0]) a.tmps w' ∧ RC (X.F A') A' w' (.slice e1 u1 (List.replicate m u1.dflt) (.own (tagOf d 0 0))) v) → o.wp X.P a w next Q := fun v w' hr ⟨A', h5, h6⟩ => by
                  have hrun : (execOp a.eval o).run X.P w = .ok (.value v) w' := call_value ho hc fun consts => by
                    simp [builtin, toArr hargs, toArr htys, he, he2, hr]
                  refine wp_value hrun (hn A' _ _ ?_ (by rw [put_defers]; exact hdef))
                  rw [hdst]
                  exact h5.put (fun d' hd' => hd d' (by rw [hdst]; exact hd')) fun _ => h6
                by_cases hm : m = 0
                · subst hm
                  obtain ⟨A', h5, h6⟩ := hi0.kill [tagOf d 0 0]
                  refine fin (.slice ad 0 0) w ?_ ⟨A', h5, .inl ⟨?_, rfl, ad, rfl⟩⟩
                  · have hw : IntKind.i64.wrap 0 = 0 := rfl
                    cases ad <;> simp [Builtin.append_, run_underlying hu, run_underlying hu', sizeOf, typeInfo, hi1, asInt, asIntOf, hw, storeCells]
                  · rcases h6 with ⟨h6, _⟩ | rfl
                    · cases h6
                    · simp [Fr.drop, mem, Nat.beq_refl]
                · have hmax : m ≤ maxLen := by
                    have : m * 1 ≤ m * ie.bytes := Nat.mul_le_mul_left _ hbp
                    simp only [maxLen]; omega
                  have hr := zeros_run (tt := o.type) hu hu' hi1 hz (by rw [hzs, hi2]) (by omega) ad m hm hmax (by rw [hi3]; exact hroom') w
                  have hge := grownCap_ge w m 0 e1
                  have hzc := hzv u1 hety
                  have hzl : z.cells.size = u1.sz := by rw [hzs, hsz]
                  obtain ⟨A', h5, h6⟩ := fresh_own (e := e1) (rest := Builtin.zeroCells z.cells (grownCap w m 0 e1 - m)) hi0 (l := [tagOf d 0 0]) (n := tagOf d 0 0) (by simp) (zs := List.replicate m u1.dflt) (cells := (Builtin.zeroCells z.cells m).toList) (cap := grownCap w m 0 e1)
                    (by simpa using hge) (grownCap_le_maxLen w m 0 e1 hmax) (by simp [Builtin.zeroCells, hzl]) (by simp [Builtin.zeroCells, hzl]) (fun q y hq => by
                      have hql : q < m := by have := (List.getElem?_eq_some_iff.1 hq).1; simpa using this
                      rw [List.getElem?_replicate, if_pos hql] at hq
                      cases hq
                      refine ⟨zeroVals u1, zero_Cl u1 hzu, fun j v hj => ?_⟩
                      rw [← hzc, Array.getElem?_toList] at hj
                      have := zeroCells_get z.cells m q j v hql hj
                      rw [hzl] at this
                      simpa using this) (w0 := w.drew) (.inr rfl)
                  refine fin _ _ hr ⟨A', by simpa using h5, by simpa using h6⟩
            · cases h
          · cases h
        · cases h
      · cases h
  · cases h

/-! ### function values -/
theorem Inv.unboxWith {A : Fr} {tm : Array Value} {w : World} (h : Inv X A σ tm w) (d : Nat) (f : PC → PC) (hc : ∀ c v, RC (X.F A) A w c v → RC (X.F (A.setBx d none)) (A.setBx d none) w (f c) v) :
    Inv X (A.setBx d none) ((σ.map f).del d) tm w := by
  have hF : ∀ b, X.F (A.setBx d none) b → X.F A b := fun b hb => by
    rcases hb with hb | ⟨i, hb⟩ | hb
    · exact .inl hb
    · simp only [Fr.setBx] at hb
      split at hb
      · cases hb
      · exact .inr (.inl ⟨i, hb⟩)
    · exact .inr (.inr hb)
  have S : Step (X.F A) (X.F (A.setBx d none)) w w := ⟨fun _ _ _ => rfl, fun b hb => .inl (hF b hb)⟩
  refine ⟨h.sz, h.kept, h.glob.step S, fun i => ?_, fun d' tid cs hd => ?_, ?_, fun q hq => ?_⟩
  case refine_4 =>
    obtain ⟨q', hq', rfl⟩ := List.mem_map.1 hq
    obtain ⟨v, hv⟩ := h.ent q' hq'
    exact ⟨v, RP.map hc hv⟩
  · show RP _ _ _ (St.get (σ.map f) i) _
    rw [St.get_map]; exact RP.map hc (h.slot i)
  · simp only [St.del] at hd
    rw [getB_delB] at hd
    split at hd
    · cases hd
    · rename_i hne
      simp only [St.map, getB_map] at hd
      cases hq : getB σ.b d' with
      | none => simp [hq] at hd
      | some q =>
        obtain ⟨tid', cs'⟩ := q
        simp only [hq, Option.map_some, Option.some.injEq, Prod.mk.injEq] at hd
        obtain ⟨rfl, rfl⟩ := hd
        obtain ⟨b, vs, h1, h2, h3⟩ := h.box d' tid' cs' hq
        exact ⟨b, vs, by simpa [Fr.setBx, hne] using h1, h2, RCs.map hc h3⟩
  · have key : ∀ i b, (A.setBx d none).bx i = some b → A.bx i = some b := fun i b hb => by
      simp only [Fr.setBx] at hb
      split at hb
      · cases hb
      · exact hb
    exact ⟨fun i b hb => h.good.bxm i b (key i b hb), h.good.tgm, fun i j b h1 h2 => h.good.bxi i j b (key _ _ h1) (key _ _ h2), h.good.tgi, fun i n b l h1 h2 => h.good.bt i n b l (key _ _ h1) h2, h.good.f0⟩

/-- A box that nobody writes any more: what it holds is told. -/
theorem freeze_sound {A0 : Fr} {tm : Array Value} {w : World} (hi0 : Inv X A0 σ tm w) {d : Nat} {tid : TypeId} {cs : List PC} {t : Ty} {y : t.den} (hb : getB σ.b d = some (tid, cs)) (hy : t.ofPC cs = some y) :
    ∃ A', Inv X A' (((σ.release (tagsOf cs)).map (PC.frozen d t y)).del d) tm w ∧ Step (X.F A0) (X.F A') w w ∧ ∀ v, RC (X.F A0) A0 w (.box d 0) v → At (X.F A') w t y v := by
  obtain ⟨b, vs, hbx, hh, hcs⟩ := hi0.box d tid cs hb
  obtain ⟨A1, hi1, hA1, hpl⟩ := released_plain hi0 (tagsOf cs)
  have hcl := hpl cs vs.toList hcs (fun _ h => h) t y hy
  have hbx1 : A1.bx d = some b := by rcases hA1 with rfl | rfl <;> exact hbx
  have S1 : Step (X.F A0) (X.F A1) w w := by
    rcases hA1 with rfl | rfl
    · exact Step.refl _ _
    · exact Step.drop _ _ _ _
  have hF : ∀ k, X.F (A1.setBx d none) k → X.F A1 k := fun k hk => by
    rcases hk with hk | ⟨i, hk⟩ | hk
    · exact .inl hk
    · simp only [Fr.setBx] at hk
      split at hk
      · cases hk
      · exact .inr (.inl ⟨i, hk⟩)
    · exact .inr (.inr hk)
  have S2 : Step (X.F A1) (X.F (A1.setBx d none)) w w := ⟨fun _ _ _ => rfl, fun k hk => .inl (hF k hk)⟩
  have hnot : ¬ X.F (A1.setBx d none) b := by
    rintro (hf | ⟨i, hf⟩ | ⟨n, l, hf⟩)
    · exact hi1.good.f0m (hi1.good.bxm d b hbx1).1 hf
    · simp only [Fr.setBx] at hf
      split at hf
      · cases hf
      · rename_i hne; exact hne (hi1.good.bxi i d b hf hbx1)
    · exact hi1.good.bt d n b l hbx1 hf
  have hAt : ∀ v, v = .pointer (some ⟨b, 0, none⟩) → At (X.F (A1.setBx d none)) w t y v := fun v hv =>
    ⟨⟨b, 0, none⟩, vs.toList, hv, hnot, hcl.step S2, fun j u hj => by rw [add_off, cell_of_block hh]; simpa using hj⟩
  refine ⟨A1.setBx d none, hi1.unboxWith d _ (fun c v hc => ?_), ⟨fun _ _ _ => rfl, fun k hk => by
    rcases S1.sub k (hF k hk) with h | h
    · exact .inl h
    · exact .inr h⟩, fun v hv => ?_⟩
  · cases c with
    | slice e t xs g => cases g with
      | own n => exact RC.step S2 ⟨fun h => h, fun g k hg => ⟨hg, rfl⟩⟩ hc
      | _ => exact RC.step S2 trivial hc
    | elemT u n i o => exact RC.step S2 (fun g k hg => hg) hc
    | box d' o =>
      show RC _ _ _ (bif Nat.beq d' d then (bif Nat.beq o 0 then .elem t y else .dead) else .box d' o) v
      cases hbq : Nat.beq d' d with
      | true =>
        have := Nat.eq_of_beq_eq_true hbq
        subst this
        cases ho : Nat.beq o 0 with
        | true =>
          have := Nat.eq_of_beq_eq_true ho
          subst this
          obtain ⟨b', hb', hv⟩ := hc
          rw [hbx1] at hb'
          cases hb'
          exact hAt v hv
        | false => exact RC.one hc
      | false =>
        show RC _ _ _ (.box d' o) v
        have hne : d' ≠ d := fun e => by rw [e, Nat.beq_refl] at hbq; cases hbq
        exact RC.step S2 (fun b hb => by simpa [Fr.setBx, hne] using hb) hc
    | _ => exact RC.step S2 trivial hc
  · obtain ⟨b', hb', hv⟩ := hv
    rw [hbx] at hb'
    cases hb'
    exact hAt v hv

theorem caps_sound {a : Act} {w : World} : ∀ {ops : List Operand} {σ σ' : St} {A : Fr} {l : List Cap}, Inv X A σ a.tmps w → capsOf X.E σ ops = some (σ', l) →
    ∃ A', Inv X A' σ' a.tmps w ∧ Step (X.F A) (X.F A') w w ∧ All2 (RCap (X.F A') w) l (ops.map a.eval)
  | [], σ, σ', A, l, hi, h => by
    simp only [capsOf, Option.some.injEq, Prod.mk.injEq] at h
    obtain ⟨rfl, rfl⟩ := h
    exact ⟨A, hi, Step.refl _ _, .nil⟩
  | x :: r, σ, σ', A, l, hi, h => by
    have trans : ∀ {F F' F'' : Nat → Prop}, Step F F' w w → Step F' F'' w w → Step F F'' w w := fun h1 h2 => ⟨fun _ _ _ => rfl, fun b hb => by
      rcases h2.sub b hb with h | h
      · exact h1.sub b h
      · exact .inr h⟩
    have hx := ev_sound hi x
    simp only [capsOf] at h
    split at h
    · rename_i d hev
      rw [hev] at hx
      split at h
      · rename_i tid cs hb
        split at h
        · rename_i t hty
          split at h
          · rename_i y hy
            split at h
            · rename_i σ1 l1 hr
              cases h
              obtain ⟨A1, h1, h2, h3⟩ := freeze_sound hi hb hy
              obtain ⟨A2, h4, h5, h6⟩ := caps_sound h1 hr
              exact ⟨A2, h4, trans h2 h5, .cons (RCap.step h5 (c := ⟨true, t, y⟩) (h3 _ hx)) h6⟩
            · cases h
          · cases h
        · cases h
      · cases h
    · rename_i t y hev
      rw [hev] at hx
      split at h
      · rename_i σ1 l1 hr
        cases h
        obtain ⟨A2, h4, h5, h6⟩ := caps_sound hi hr
        exact ⟨A2, h4, h5, .cons (RCap.step h5 (c := ⟨true, t, y⟩) hx) h6⟩
      · cases h
    · cases h

theorem makeFunc_sound {f : Fn} {first captured : Array Operand} (ho : o.op = .makeFunc f first captured) (hd : ∀ d, o.dst = some d → d < X.n) (h : opK X.E run σ o some = some σ') : OpSound X o σ σ' := by
  cases f with
  | func f =>
    simp only [opK, ho] at h
    split at h
    · rename_i σ1 l hfirst hcaps
      cases h
      intro A a w hi0 hdef next Q hn
      obtain ⟨A', h1, _, h3⟩ := caps_sound (a := a) hi0 hcaps
      have hf : first = #[] := toArr hfirst
      subst hf
      refine wp_value (v := .func (.func f) #[] (captured.toList.map a.eval).toArray) (w' := w) ?_ (hn A' _ _ (h1.put hd fun _ => ⟨_, rfl, h3⟩) (by rw [put_defers]; exact hdef))
      have : captured.map a.eval = (captured.toList.map a.eval).toArray := Array.ext' (by simp)
      simp [execOp, ho, Instr.makeFunc, this]
    · cases h
  | _ => simp [opK, ho] at h

end
end Go.Sv
