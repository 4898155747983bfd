/- Each operation of the evaluator is sound: arithmetic, what is read of an array or a string, function values. -/
import Derived.Test.YtnooginekcnflaaEvK
namespace Go.Sv
open Go
set_option linter.unusedVariables false
set_option linter.unusedSimpArgs false

section
variable {X : Ctx} {run : Runs X.E} {o : Oper} {σ σ' : St}

theorem intOp_run {P : Program} {op : BinOp} {t : TypeId} {k : IntKind} {a b : Int} {c : PC} (h : intOp op k a b = some c) (w : World) : ∃ v, (binOp op t (.int k a) (.int k b)).run P w = .ok v w ∧ ∀ {F : Nat → Prop} {A : Fr}, RC F A w c v := by
  cases op <;> simp only [intOp, Option.some.injEq] at h <;> try (cases h; done)
  all_goals subst h
  all_goals exact ⟨_, by simp [binOp, Op.intArith, Op.intCmp] <;> rfl, rfl⟩

theorem strOp_run {P : Program} {op : BinOp} {t : TypeId} {a b : ByteArray} {c : PC} (h : strOp op a b = some c) (w : World) : ∃ v, (binOp op t (.string a) (.string b)).run P w = .ok v w ∧ ∀ {F : Nat → Prop} {A : Fr}, RC F A w c v := by
  cases op <;> simp only [strOp, Option.some.injEq] at h <;> try (cases h; done)
  all_goals subst h
  all_goals exact ⟨_, by simp [binOp, Op.stringOp] <;> rfl, rfl⟩

theorem eqGuard_plain {P : Program} (op : BinOp) (t : TypeId) (x y : Operand) (a b : Value) (w : World) (h : (∀ cs, a ≠ .agg cs) ∧ a ≠ .nilIface) : (eqGuard op t x y a b).run P w = .ok () w := by
  cases op <;> simp [eqGuard]
  all_goals
    split
    · exact absurd rfl h.2
    · exact absurd rfl (h.1 _)
    · rfl

theorem binOp_sound {op : BinOp} {t : TypeId} {x y : Operand} {z : TypeId} (hE : TypesOK X.P X.E) (ho : o.op = .binOp op t x y z) (hd : ∀ d, o.dst = some d → d < X.n) (h : opK X.E run σ o some = some σ') : OpSound X o σ σ' := by
  simp only [opK, ho] at h
  split at h
  · rename_i s1 s2 hs1 hs2
    have ex : ∀ (A : Fr) (a : Act) (w : World), Inv X A σ a.tmps w → RS (X.F A) A w s1 (a.eval x) ∧ RS (X.F A) A w s2 (a.eval y) := fun A a w hi => by
      have h1 : RP (X.F A) A w _ _ := typed_sound t (ev_sound hi x)
      have h2 := ev_sound hi y
      rw [hs1] at h1
      rw [hs2] at h2
      exact ⟨h1, h2⟩
    have fin : ∀ (c : PC), σ' = σ.put o.dst (.sv (.one c)) → (∀ (A : Fr) (a : Act) (w : World), Inv X A σ a.tmps w → ∃ v, ((do eqGuard op t x y (a.eval x) (a.eval y); binOp op t (a.eval x) (a.eval y)) : Sem Value).run X.P w = .ok v w ∧ RC (X.F A) A w c v) → OpSound X o σ σ' := by
      intro c hσ hk
      subst hσ
      refine .value hd fun A a w hi => ?_
      obtain ⟨v, hr, hc⟩ := hk A a w hi
      refine ⟨v, ?_, hc⟩
      have e1 : (execOp a.eval o).run X.P w = (((do eqGuard op t x y (a.eval x) (a.eval y); binOp op t (a.eval x) (a.eval y)) : Sem Value).run X.P w).andThen fun v w' => .ok (.value v) w' := by
        simp only [execOp, ho]
        rw [Sem.run_bind]
        rfl
      rw [e1, hr]
      rfl
    unfold binK at h
    split at h
    · -- whole numbers
      rename_i k n k' m
      split at h
      · rename_i hk
        subst hk
        have key : ∀ (c : PC), (∀ w, ∃ v, (binOp op t (.int k n) (.int k m)).run X.P w = .ok v w ∧ ∀ {F : Nat → Prop} {A : Fr}, RC F A w c v) → σ' = σ.put o.dst (.sv (.one c)) → OpSound X o σ σ' := by
          intro c hc hσ
          refine fin c hσ fun A a w hi => ?_
          obtain ⟨e1, e2⟩ := ex A a w hi
          have e1' : a.eval x = .int k n := e1
          have e2' : a.eval y = .int k m := e2
          obtain ⟨v, hv, hr⟩ := hc w
          refine ⟨v, ?_, hr⟩
          rw [e1', e2', Sem.run_bind, eqGuard_plain _ _ _ _ _ _ _ (by simp)]
          exact hv
        split at h
        · cases hm : (m == 0) with
          | true => simp [hm] at h
          | false =>
            simp only [hm, cond_false, Option.some.injEq] at h
            have hm' : m ≠ 0 := by simpa using hm
            exact key (.int k (k.wrap (n.tdiv m))) (fun w => ⟨.int k (k.wrap (n.tdiv m)), by simp [binOp, Op.intDiv, hm'], rfl⟩) h.symm
        · cases hm : (m == 0) with
          | true => simp [hm] at h
          | false =>
            simp only [hm, cond_false, Option.some.injEq] at h
            have hm' : m ≠ 0 := by simpa using hm
            exact key (.int k (n.tmod m)) (fun w => ⟨.int k (n.tmod m), by simp [binOp, Op.intDiv, hm'], rfl⟩) h.symm
        · split at h
          · rename_i c hc
            cases h
            exact key c (fun w => intOp_run hc w) rfl
          · cases h
      · cases h
    · -- strings
      rename_i a1 a2
      have key : ∀ (c : PC), (∀ w, ∃ v, (binOp op t (.string a1) (.string a2)).run X.P w = .ok v w ∧ ∀ {F : Nat → Prop} {A : Fr}, RC F A w c v) → σ' = σ.put o.dst (.sv (.one c)) → OpSound X o σ σ' := by
        intro c hc hσ
        refine fin c hσ fun A a w hi => ?_
        obtain ⟨e1, e2⟩ := ex A a w hi
        have e1' : a.eval x = .string a1 := e1
        have e2' : a.eval y = .string a2 := e2
        obtain ⟨v, hv, hr⟩ := hc w
        refine ⟨v, ?_, hr⟩
        rw [e1', e2', Sem.run_bind, eqGuard_plain _ _ _ _ _ _ _ (by simp)]
        exact hv
      split at h
      · cases hm : decide (a1.size + a2.size ≤ 9223372036854775807) with
        | false => simp [hm] at h
        | true =>
          simp only [hm, cond_true, Option.some.injEq] at h
          exact key (.str (a1 ++ a2)) (fun w => ⟨.string (a1 ++ a2), by simp only [binOp]; exact run_string_add_sum w a1 a2 (of_decide_eq_true hm), rfl⟩) h.symm
      · split at h
        · rename_i c hc
          cases h
          exact key c (fun w => strOp_run hc w) rfl
        · cases h
    · -- bools
      rename_i b1 b2
      split at h
      · rename_i i hti
        have ht := hE.ti t i hti
        obtain ⟨d, hu, hk⟩ := ht.und
        have key : ∀ (q : Bool), i.d = .bool → ((X.P.underlying t = some .bool) → ∀ w, (binOp op t (.bool b1) (.bool b2)).run X.P w = .ok (.bool q) w) → σ' = σ.put o.dst (.sv (.one (.bool q))) → OpSound X o σ σ' := by
          intro q hid hc hσ
          refine fin (.bool q) hσ fun A a w hi => ?_
          obtain ⟨e1, e2⟩ := ex A a w hi
          have e1' : a.eval x = .bool b1 := e1
          have e2' : a.eval y = .bool b2 := e2
          rw [hid] at hk
          cases d <;> try exact hk.elim
          refine ⟨.bool q, ?_, rfl⟩
          rw [e1', e2', Sem.run_bind, eqGuard_plain _ _ _ _ _ _ _ (by simp)]
          exact hc hu w
        split at h
        · rename_i hid
          cases h
          exact key _ hid (fun hu w => run_eql_bool w t b1 b2 hu) rfl
        · rename_i hid
          cases h
          exact key _ hid (fun hu w => run_neq_bool w t b1 b2 hu) rfl
        · cases h
      · cases h
    · -- a slice beside nil
      rename_i e u xs g
      split at h
      · rename_i i hti
        have ht := hE.ti t i hti
        obtain ⟨d, hu, hk⟩ := ht.und
        have key : ∀ (q : Bool) (e' : TypeId), i.d = .slice e' → xs ≠ [] → (∀ w (ad : Addr) n c, X.P.underlying t = some (.slice e') → (binOp op t (.slice (some ad) n c) (.slice none 0 0)).run X.P w = .ok (.bool q) w) → σ' = σ.put o.dst (.sv (.one (.bool q))) → OpSound X o σ σ' := by
          intro q e' hid hx hc hσ
          refine fin (.bool q) hσ fun A a w hi => ?_
          obtain ⟨e1, e2⟩ := ex A a w hi
          obtain ⟨ad, cap, he, _, hs⟩ := src_RC hi e1
          have e2' : a.eval y = .slice none 0 0 := e2
          rcases hs with hs | ⟨b, news, rfl, _⟩
          · exact absurd hs hx
          rw [hid] at hk
          cases d <;> try exact hk.elim
          have hk' : e' = _ := hk
          subst hk'
          refine ⟨.bool q, ?_, rfl⟩
          rw [he, e2', Sem.run_bind, eqGuard_plain _ _ _ _ _ _ _ (by simp)]
          exact hc w b _ _ hu
        split at h
        · rename_i hid
          cases h
          exact key false _ hid (by simp) (fun w ad n c hu => by simp only [binOp]; simp [run_equal_slice_nil w t _ (some ad) n c hu]) rfl
        · rename_i hid
          cases h
          exact key true _ hid (by simp) (fun w ad n c hu => by simp only [binOp]; simp [run_equal_slice_nil w t _ (some ad) n c hu]) rfl
        · cases h
      · cases h
    · -- structs
      rename_i cs1 cs2
      split at h
      · rename_i i hti
        have ht := hE.ti t i hti
        split at h
        · rename_i heq
          split at h
          · rename_i u hty
            obtain ⟨hfl, heqs⟩ := ht.eq heq u hty
            have key : ∀ (p q : u.den) (r : Bool), u.ofPC cs1 = some p → u.ofPC cs2 = some q → (∀ w, (binOp op t (.agg (flatVals u p).toArray) (.agg (flatVals u q).toArray)).run X.P w = .ok (.bool r) w) → σ' = σ.put o.dst (.sv (.one (.bool r))) → OpSound X o σ σ' := by
              intro p q r hp hq hc hσ
              refine fin (.bool r) hσ fun A a w hi => ?_
              obtain ⟨e1, e2⟩ := ex A a w hi
              obtain ⟨vs1, e1', hv1⟩ := e1
              obtain ⟨vs2, e2', hv2⟩ := e2
              have h1 : vs1 = flatVals u p := flat_vals hfl hp hv1
              have h2 : vs2 = flatVals u q := flat_vals hfl hq hv2
              subst h1; subst h2
              refine ⟨.bool r, ?_, rfl⟩
              rw [e1', e2', Sem.run_bind, (heqs w op x y p q).1]
              exact hc w
            split at h
            · rename_i p q hp hq
              cases h
              exact key p q _ hp hq (fun w => by rw [run_eql_struct, (heqs w .eql x y p q).2]; rfl) rfl
            · rename_i p q hp hq
              cases h
              exact key p q _ hp hq (fun w => by rw [run_neq_struct, (heqs w .neq x y p q).2]; rfl) rfl
            · cases h
          · cases h
        · cases h
      · cases h
    · cases h
  · cases h

/-! ### what is read of an array, of a string -/
theorem chunk_get {u : Ty} {sz : Nat} : ∀ {n : Nat} {cs : List PC} {l : List u.den}, chunk u sz n cs = some l → l.length = n ∧ ∀ i x, l[i]? = some x → u.ofPC ((cs.drop (i * sz)).take sz) = some x
  | 0, cs, l, h => by simp only [chunk, Option.some.injEq] at h; subst h; simp
  | n + 1, cs, l, h => by
    unfold chunk at h
    split at h
    · rename_i x r hx hr
      cases h
      obtain ⟨h1, h2⟩ := chunk_get hr
      refine ⟨by simp [h1], fun i y hy => ?_⟩
      cases i with
      | zero => simp at hy; subst hy; simpa using hx
      | succ i =>
        have := h2 i y (by simpa using hy)
        rw [List.drop_drop] at this
        rw [Nat.add_mul, Nat.one_mul, Nat.add_comm]; exact this
    · cases h

theorem part_run {t : TypeId} {i : TI} (hi : X.E.ti t = some i) (ht : TIOK X.P t i) {F : Nat → Prop} {A : Fr} {w : World} {cs : List PC} {vs : List Value} {off : Nat} {xs : Array Value} {s : SV} (hc : RCs F A w cs vs) (hs : X.E.mkSV t cs = some s)
    (hl : cs.length = i.size) (hx : (xs.toList.drop off).take i.size = vs) : ∃ v, (part t xs off).run X.P w = .ok v w ∧ RS F A w s v := by
  unfold Env.mkSV at hs
  simp only [hi] at hs
  unfold part
  simp only [Sem.run_bind, isAgg_run ht, Result.andThen_ok, Sem.run_ite]
  cases hagg : i.agg with
  | true =>
    simp only [hagg, if_true, Option.some.injEq] at hs
    subst hs
    have he : xs.extract off (off + i.size) = vs.toArray := by
      rw [← hx]; refine Array.ext' ?_; simp [List.extract_eq_take_drop]
    exact ⟨.agg vs.toArray, by simp [sizeOf_run ht, he], vs, rfl, hc⟩
  | false =>
    simp only [hagg, Bool.false_eq_true, if_false] at hs
    cases hc with
    | nil => simp at hs
    | cons h0 hr =>
      rename_i c0 v0 l0 m0
      cases hr with
      | nil =>
        simp only [Option.some.injEq] at hs
        subst hs
        refine ⟨v0, ?_, h0⟩
        have : xs[off]? = some v0 := by
          have := congrArg (·[0]?) hx
          simp only [List.getElem?_take, List.getElem?_drop, List.getElem?_cons_zero] at this
          split at this
          · simpa using this
          · cases this
        simp [this]
      | cons _ _ => simp at hs

theorem tags_nil {cs : List PC} (h : tagsOf cs = []) {F : Nat → Prop} {A : Fr} {w : World} : ∀ c ∈ cs, Plain F A w c := fun c hc => by
  cases c with
  | slice e t xs g => cases g with
    | own n =>
      have : n ∈ tagsOf cs := List.mem_flatMap.2 ⟨_, hc, List.mem_singleton.2 rfl⟩
      rw [h] at this; cases this
    | _ => trivial
  | _ => trivial

theorem index_sound {t : TypeId} {x ix : Operand} (hE : TypesOK X.P X.E) (ho : o.op = .index t x ix) (hd : ∀ d, o.dst = some d → d < X.n) (h : opK X.E run σ o some = some σ') : OpSound X o σ σ' := by
  simp only [opK, ho] at h
  split at h
  · rename_i i hti
    have ht := hE.ti t i hti
    obtain ⟨dd, hu, hk⟩ := ht.und
    split at h
    · rename_i s k n hid hex hei
      cases hok : idxOk n s.size with
      | false => simp [hok] at h
      | true =>
        simp only [hok, cond_true, Option.some.injEq] at h
        subst h
        obtain ⟨b, hb1, hb2, h0⟩ := byteAt_get hok
        refine .value hd fun A a w hi => ?_
        have hx := ev_sound hi x
        rw [hex] at hx
        have hx' : a.eval x = .string s := hx
        have hn := ev_sound hi ix
        rw [hei] at hn
        have hn' : a.eval ix = .int k n := hn
        rw [hid] at hk
        cases dd <;> try exact hk.elim
        refine ⟨.int .u8 b.toNat, ?_, by show _ = _; rw [← hb2]⟩
        simp [execOp, ho, hx', hn', Instr.index, asIntOf, run_underlying hu, h0, hb1]
    · rename_i m e cs k n hid hex hei
      split at h
      · rename_i ie hte
        have hte' := hE.ti e ie hte
        split at h
        · rename_i u hety
          split at h
          · rename_i hcond
            obtain ⟨hsz, htags⟩ := hcond
            split at h
            · rename_i l hl
              cases hok : idxOk n l.length with
              | false => simp [hok] at h
              | true =>
                simp only [hok, cond_true] at h
                obtain ⟨h0, hlt⟩ := idxOk_iff hok
                obtain ⟨hlen, hget⟩ := chunk_get hl
                have hnl : n.toNat < l.length := by omega
                split at h
                · rename_i s hs
                  cases h
                  refine .value hd fun A a w hi => ?_
                  have hx := ev_sound hi x
                  rw [hex] at hx
                  obtain ⟨vs, hx', hvs⟩ := hx
                  have hn := ev_sound hi ix
                  rw [hei] at hn
                  have hn' : a.eval ix = .int k n := hn
                  rw [hid] at hk
                  cases dd <;> try exact hk.elim
                  obtain ⟨rfl, rfl⟩ := hk
                  have hof := hget _ _ (rd_get hnl)
                  have hcl : Cl (X.F A) w u (rd u l n) ((vs.drop (n.toNat * u.sz)).take u.sz) := RCs.ofPC hof (fun c hc => tags_nil htags c (List.mem_of_mem_drop (List.mem_of_mem_take hc))) (forall2_take (forall2_drop hvs _) _)
                  obtain ⟨v, hr, hv⟩ := part_run hte hte' (hcl.toPC (A := A)) hs (by rw [toPC_len]; exact hsz.symm) (xs := vs.toArray) (off := n.toNat * u.sz) (by rw [hsz])
                  refine ⟨v, ?_, hv⟩
                  have hb : 0 ≤ n ∧ n < (m : Int) := ⟨h0, by rw [hlen] at hlt; exact hlt⟩
                  simp [execOp, ho, hx', hn', Instr.index, asIntOf, run_underlying hu, hb, sizeOf_run hte', hsz, hr]
                · cases h
            · cases h
          · cases h
        · cases h
      · cases h
    · cases h
  · cases h

end
end Go.Sv
