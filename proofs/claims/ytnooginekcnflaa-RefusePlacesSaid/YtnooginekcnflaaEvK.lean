/- Each operation of the evaluator is sound: literals, arithmetic, what is read of an array, function values. -/
import Derived.Test.YtnooginekcnflaaEvJ
import Derived.Laws.Tables
import Derived.Laws.Concat
import Derived.Laws.Cover3
import Derived.Laws.Small
namespace Go.Sv
open Go
set_option linter.unusedVariables false
set_option linter.unusedSimpArgs false

section
variable {X : Ctx} {run : Runs X.E} {o : Oper} {σ σ' : St}

/-- What is handed on, when its rows are let go. -/
theorem released_plain {A0 : Fr} {tm : Array Value} {w : World} (hi0 : Inv X A0 σ tm w) (l : List Nat) :
    ∃ A', Inv X A' (σ.release l) tm w ∧ (A' = A0 ∨ A' = A0.drop l) ∧ ∀ (cs : List PC) (vs : List Value), RCs (X.F A0) A0 w cs vs → (∀ m ∈ tagsOf cs, m ∈ l) → ∀ (u : Ty) (x : u.den), u.ofPC cs = some x → Cl (X.F A') w u x vs := by
  obtain ⟨A', hi, hA', hA2⟩ := hi0.release l
  refine ⟨A', hi, hA', fun cs vs hc hl u x hx => ?_⟩
  have S : Step (X.F A0) (X.F A') w w := by
    rcases hA' with rfl | rfl
    · exact Step.refl _ _
    · exact Step.drop _ _ _ _
  have hc' : RCs (X.F A') A0 w cs vs := hc.step S fun c _ => (Ext.refl A0 w).stays c
  refine RCs.ofPC hx (fun c hcm => ?_) hc'
  cases c with
  | slice e1 t1 xs1 q => cases q with
    | own m =>
      intro g1 l1 hg1
      have hm := hl m (List.mem_flatMap.2 ⟨_, hcm, List.mem_singleton.2 rfl⟩)
      refine ⟨?_, (hi0.good.tgm m g1 l1 hg1).2⟩
      rcases hA2 with ⟨rfl, _⟩ | rfl
      · cases hm
      · exact hi0.good.notF hg1 hm
    | _ => trivial
  | _ => trivial

theorem flat_vals {F : Nat → Prop} {A : Fr} {w : World} : ∀ {u : Ty} {x : u.den} {cs : List PC} {vs : List Value}, u.flat = true → u.ofPC cs = some x → RCs F A w cs vs → vs = flatVals u x
  | .bool, x, cs, vs, _, ho, h => by
    obtain rfl := boolOf_eq ho
    cases h with | cons h0 ht => cases ht; cases h0; rfl
  | .int k, x, cs, vs, _, ho, h => by
    obtain rfl := intOf_eq ho
    cases h with | cons h0 ht => cases ht; cases h0; rfl
  | .str, x, cs, vs, _, ho, h => by
    obtain rfl := strOf_eq ho
    cases h with | cons h0 ht => cases ht; cases h0; rfl
  | .fn, x, cs, vs, _, ho, h => by
    obtain rfl := fnOf_eq ho
    cases h with
    | cons h0 ht =>
      cases ht
      obtain ⟨us, rfl, hu⟩ := h0
      cases hu
      rfl
  | .slice e t, _, _, _, hf, _, _ => by cases hf
  | .pair a b, x, cs, vs, hf, ho, h => by
    simp only [Ty.flat, Bool.and_eq_true] at hf
    unfold Ty.ofPC at ho
    split at ho
    · rename_i x1 y1 h1 h2
      cases ho
      have c1 := flat_vals hf.1 h1 (forall2_take h a.sz)
      have c2 := flat_vals hf.2 h2 (forall2_drop h a.sz)
      rw [← List.take_append_drop a.sz vs, c1, c2]; rfl
    · cases ho

/-- A part's cells, put in their place. -/
theorem fold_place (off : Nat) : ∀ (L : List Value) (k : Nat) (A : Array Value), off + k + L.length ≤ A.size →
    ((L.zipIdx k).foldl (fun cs (p : Value × Nat) => cs.setIfInBounds (off + p.2) p.1) A).toList = A.toList.take (off + k) ++ L ++ A.toList.drop (off + k + L.length)
  | [], k, A, _ => by simp
  | c :: L, k, A, h => by
    simp only [List.length_cons] at h
    rw [List.zipIdx_cons, List.foldl_cons, fold_place off L (k + 1) _ (by simp; omega)]
    refine List.ext_getElem? fun i => ?_
    have e1 := splice_get (A.setIfInBounds (off + k) c).toList L (off + (k + 1)) i (by simp; omega)
    have e2 := splice_get A.toList (c :: L) (off + k) i (by simp; omega)
    rw [e1, e2]
    simp only [Array.getElem?_toList, Array.getElem?_setIfInBounds, List.length_cons]
    by_cases h1 : i < off + k
    · rw [if_pos (by omega), if_pos h1, if_neg (by omega)]
    · rw [if_neg h1]
      by_cases h2 : i = off + k
      · subst h2
        rw [if_pos (by omega), if_pos rfl, if_pos (by omega), if_pos (by omega)]; simp
      · by_cases h3 : i < off + k + (L.length + 1)
        · rw [if_neg (by omega), if_pos (by omega), if_pos h3]
          rw [show i - (off + k) = (i - (off + (k + 1))) + 1 by omega]; simp
        · rw [if_neg (by omega), if_neg (by omega), if_neg h3, if_neg (by omega)]

theorem fill_cons {place : Nat → Option (Nat × Nat)} {A : Array Value} {i off sz : Nat} {v : Value} {r : List (Nat × Value)} (hp : place i = some (off, sz)) (hs : v.cells.size = sz) (hf : off + sz ≤ A.size) :
    Instr.fill place A ((i, v) :: r) = Instr.fill place (A.toList.take off ++ v.cells.toList ++ A.toList.drop (off + v.cells.toList.length)).toArray r := by
  have := fold_place off v.cells.toList 0 A (by simp [hs]; omega)
  have e : (v.cells.zipIdx.foldl (fun cs (c, j) => cs.setIfInBounds (off + j) c) A) = (A.toList.take off ++ v.cells.toList ++ A.toList.drop (off + v.cells.toList.length)).toArray := by
    refine Array.ext' ?_
    simp only [Nat.add_zero] at this
    show _ = _
    rw [← this, ← Array.foldl_toList]
    simp only [Array.toList_zipIdx]
  simp only [Instr.fill, hp, hs, ne_eq, not_true_eq_false, decide_false, Bool.false_or, gt_iff_lt, decide_eq_true_eq, show ¬ (A.size < off + sz) by omega, Bool.false_eq_true, if_false, e]

theorem fill_sound {A : Fr} {a : Act} {w : World} (hE : TypesOK X.P X.E) (hi : Inv X A σ a.tmps w) {place : Nat → Option (Nat × TypeId)} {place' : Nat → Option (Nat × Nat)} (hp : ∀ j off ft i', place j = some (off, ft) → X.E.ti ft = some i' → place' j = some (off, i'.size)) :
    ∀ (parts : List (Nat × Operand)) (cs cs' : List PC) (cells : Array Value), fillParts X.E place σ parts cs = some cs' → RCs (X.F A) A w cs cells.toList →
      ∃ cells', Instr.fill place' cells (parts.map fun p => (p.1, a.eval p.2)) = some cells' ∧ RCs (X.F A) A w cs' cells'.toList
  | [], cs, cs', cells, h, hc => by simp only [fillParts, Option.some.injEq] at h; subst h; exact ⟨cells, rfl, hc⟩
  | (i, x) :: r, cs, cs', cells, h, hc => by
    simp only [fillParts] at h
    split at h
    · cases h
    rename_i off ft hpl
    split at h
    · rename_i i' s hti hs
      split at h
      · rename_i hcond
        obtain ⟨hlen, hfit⟩ := hcond
        have hx : RP (X.F A) A w _ _ := typed_sound ft (ev_sound hi x)
        rw [hs] at hx
        have hcells := RS.cells hx
        have hvs : (a.eval x).cells.size = i'.size := by have := hcells.length; simp at this; omega
        have hcl := hc.length
        simp at hcl
        obtain ⟨cells', h1, h2⟩ := fill_sound hE hi hp r _ cs' (cells.toList.take off ++ (a.eval x).cells.toList ++ cells.toList.drop (off + (a.eval x).cells.toList.length)).toArray h (forall2_set hc hcells off)
        exact ⟨cells', by rw [List.map_cons, fill_cons (hp i off ft i' hpl hti) hvs (by omega)]; exact h1, h2⟩
      · cases h
    · cases h

theorem mapM_places {P : Program} : ∀ (fs : List Field), (∀ f ∈ fs, ∃ tf, P.info? f.type = some tf) → ∃ places : List (Nat × Nat), fs.mapM (fun (f : Field) => (P.info? f.type).map fun i => (f.offset, i.size)) = some places ∧
    ∀ (j : Nat) (f : Field) (tf : TypeInfo), fs[j]? = some f → P.info? f.type = some tf → places[j]? = some (f.offset, tf.size)
  | [], _ => ⟨[], rfl, by simp⟩
  | f :: fs, h => by
    obtain ⟨tf, htf⟩ := h f (List.mem_cons_self ..)
    obtain ⟨places, h1, h2⟩ := mapM_places fs fun g hg => h g (List.mem_cons_of_mem _ hg)
    refine ⟨(f.offset, tf.size) :: places, by simp [List.mapM_cons, htf, h1], fun j g tg hj hg => ?_⟩
    cases j with
    | zero => simp at hj; subst hj; rw [htf] at hg; cases hg; rfl
    | succ j => simpa using h2 j g tg (by simpa using hj) hg

theorem build_sound {t : TypeId} {parts : Array (Nat × Operand)} (hE : TypesOK X.P X.E) (ho : o.op = .build t parts) (hd : ∀ d, o.dst = some d → d < X.n) (h : opK X.E run σ o some = some σ') : OpSound X o σ σ' := by
  simp only [opK, ho] at h
  split at h
  · rename_i i hti
    have ht := hE.ti t i hti
    obtain ⟨ti, hi, _, _, z, hz, hzs, hzv⟩ := ht.info
    obtain ⟨d, hu, hk⟩ := ht.und
    have fin : ∀ (cs : List PC) (A : Fr) (a : Act) (w : World), (∃ cells : Array Value, X.P.built t (parts.map fun (i, x) => (i, a.eval x)).toList = some cells ∧ RCs (X.F A) A w cs cells.toList) →
        ∃ v, (execOp a.eval o).run X.P w = .ok (.value v) w ∧ RP (X.F A) A w (.sv (.agg cs)) v := fun cs A a w ⟨cells, h1, h2⟩ =>
      ⟨.agg cells, by simp only [execOp, ho, Sem.run_bind, run_build w t _ cells h1, Result.andThen_ok]; rfl, cells.toList, by simp, h2⟩
    have hmap : ∀ (a : Act), (parts.map fun (i, x) => (i, a.eval x)).toList = parts.toList.map fun p => (p.1, a.eval p.2) := fun a => by simp
    split at h
    · rename_i fs u hid hty
      split at h
      · rename_i cs hcs
        cases h
        refine .value hd fun A a w hinv => fin cs A a w ?_
        rw [hid] at hk
        cases d <;> try exact hk.elim
        rename_i fields
        have hk' : fields.toList.map (fun f => (f.offset, f.type)) = fs := hk
        obtain ⟨places, hp1, hp2⟩ := mapM_places (P := X.P) fields.toList fun f hf => by
          obtain ⟨tf, h1, _⟩ := ht.fields fs hid (f.offset, f.type) (by rw [← hk']; exact List.mem_map.2 ⟨f, hf, rfl⟩)
          exact ⟨tf, h1⟩
        obtain ⟨cells, h1, h2⟩ := fill_sound hE hinv (place' := (places.toArray[·]?)) (fun j off ft i' hj hi' => by
          rw [← hk', List.getElem?_map] at hj
          cases hg : fields.toList[j]? with
          | none => simp [hg] at hj
          | some g =>
            simp only [hg, Option.map_some, Option.some.injEq, Prod.mk.injEq] at hj
            obtain ⟨rfl, rfl⟩ := hj
            obtain ⟨tf, h1, h2, _⟩ := (hE.ti _ i' hi').info
            have := hp2 j g tf hg h1
            rw [h2] at this
            simpa using this) parts.toList (zeroPC u) cs z.cells hcs (by rw [hzv u hty]; exact zero_RCs u)
        refine ⟨cells, ?_, h2⟩
        simp only [Program.built, hi, hu, hz, hp1, hmap]
        exact h1
      · cases h
    · rename_i n e u hid hty
      split at h
      · rename_i ie hte
        split at h
        · rename_i cs hcs
          cases h
          refine .value hd fun A a w hinv => fin cs A a w ?_
          rw [hid] at hk
          cases d <;> try exact hk.elim
          obtain ⟨_, rfl⟩ := hk
          obtain ⟨te, he1, he2, _⟩ := (hE.ti _ ie hte).info
          obtain ⟨cells, h1, h2⟩ := fill_sound hE hinv (place' := fun i => some (i * te.size, te.size)) (fun j off ft i' hj hi' => by
            split at hj
            · simp only [Option.some.injEq, Prod.mk.injEq] at hj
              obtain ⟨rfl, rfl⟩ := hj
              rw [hte] at hi'
              cases hi'
              rw [he2]
            · cases hj) parts.toList (zeroPC u) cs z.cells hcs (by rw [hzv u hty]; exact zero_RCs u)
          refine ⟨cells, ?_, h2⟩
          simp only [Program.built, hi, hu, hz, he1, hmap]
          exact h1
        · cases h
      · cases h
    · cases h
  · cases h

/-- A literal's elements, in order. -/
theorem elems_fill {A : Fr} {a : Act} {w : World} {e : TypeId} {u : Ty} (hsz : 0 < u.sz) :
    ∀ (parts : List (Nat × Operand)), (∀ p ∈ parts, ∀ (s : SV), X.E.typed e (σ.ev p.2) = .sv s → ∀ y, u.ofPC s.cells = some y → Cl (X.F A) w u y (a.eval p.2).cells.toList) → ∀ (n i : Nat) (l : List u.den) (cells : Array Value), elemsOf X.E e u σ parts n i = some l → cells.size = (i + n) * u.sz →
      (∀ k, i ≤ k → k < i + n → ∀ j v, (zeroVals u)[j]? = some v → cells[k * u.sz + j]? = some v) →
      ∃ cells', Instr.fill (fun i => some (i * u.sz, u.sz)) cells (parts.map fun p => (p.1, a.eval p.2)) = some cells' ∧ cells'.size = cells.size ∧ l.length = n ∧ (∀ k, k < i * u.sz → cells'[k]? = cells[k]?) ∧
        ∀ m x, l[m]? = some x → ∃ ds, Cl (X.F A) w u x ds ∧ ∀ j v, ds[j]? = some v → cells'[(i + m) * u.sz + j]? = some v
  | [], _, n, i, l, cells, h, hs, hz => by
    simp only [elemsOf] at h
    split at h
    · rename_i hc
      cases h
      refine ⟨cells, rfl, rfl, by simp, fun _ _ => rfl, fun m x hm => ?_⟩
      have hmn : m < n := by have := (List.getElem?_eq_some_iff.1 hm).1; simpa using this
      rw [List.getElem?_replicate, if_pos hmn] at hm
      cases hm
      rcases hc with hc | hc
      · omega
      · exact ⟨zeroVals u, zero_Cl u hc, fun j v hj => hz (i + m) (by omega) (by omega) j v hj⟩
    · cases h
  | (j, x) :: r, _, 0, i, l, cells, h, hs, hz => by simp [elemsOf] at h
  | (j, x) :: r, hP, n + 1, i, l, cells, h, hs, hz => by
    simp only [elemsOf] at h
    split at h
    · rename_i hji
      subst hji
      split at h
      · rename_i s l' hs' hl'
        split at h
        · rename_i y hy
          cases h
          have hc := hP (j, x) (List.mem_cons_self ..) s hs' y hy
          generalize hds : (a.eval x).cells = ds at hc
          have hdl := hc.length
          simp only [Array.length_toList] at hdl
          have hmul : (j + (n + 1)) * u.sz = j * u.sz + u.sz + n * u.sz := by simp [Nat.add_mul]; omega
          have hfit : j * u.sz + u.sz ≤ cells.size := by rw [hs, hmul]; omega
          have hn1 : (j + 1) * u.sz = j * u.sz + u.sz := by simp [Nat.add_mul]
          obtain ⟨cells', h1, h2, h3, h4, h5⟩ := elems_fill hsz r (fun p hp => hP p (List.mem_cons_of_mem _ hp)) n (j + 1) l' (cells.toList.take (j * u.sz) ++ ds.toList ++ cells.toList.drop (j * u.sz + ds.toList.length)).toArray hl'
            (by simp [hdl]; rw [hs, hmul]; simp [Nat.add_mul]; omega) (fun k hk1 hk2 q v hq => by
              have hql := (List.getElem?_eq_some_iff.1 hq).1
              rw [zeroVals_len] at hql
              have : (j + 1) * u.sz ≤ k * u.sz := Nat.mul_le_mul_right _ hk1
              have e1 := splice_get cells.toList ds.toList (j * u.sz) (k * u.sz + q) (by simp [hdl]; omega)
              rw [List.getElem?_toArray, e1, if_neg (by omega), if_neg (by simp [hdl]; omega)]
              simpa using hz k (by omega) (by omega) q v hq)
          have hsz' : (cells.toList.take (j * u.sz) ++ ds.toList ++ cells.toList.drop (j * u.sz + ds.toList.length)).toArray.size = cells.size := by simp [hdl]; omega
          refine ⟨cells', ?_, h2.trans hsz', by simp [h3], fun k hk => ?_, fun m x' hm => ?_⟩
          · rw [List.map_cons, fill_cons (place := fun i => some (i * u.sz, u.sz)) (off := j * u.sz) (sz := u.sz) rfl (by rw [hds]; exact hdl) hfit, hds]; exact h1
          · rw [h4 k (by omega)]
            have e1 := splice_get cells.toList ds.toList (j * u.sz) k (by simp [hdl]; omega)
            rw [List.getElem?_toArray, e1, if_pos hk]; simp
          · cases m with
            | zero =>
              simp at hm
              subst hm
              refine ⟨ds.toList, hc, fun q v hq => ?_⟩
              have hql := (List.getElem?_eq_some_iff.1 hq).1
              simp only [Array.length_toList] at hql
              rw [Nat.add_zero, h4 _ (by omega)]
              have e1 := splice_get cells.toList ds.toList (j * u.sz) (j * u.sz + q) (by simp [hdl]; omega)
              rw [List.getElem?_toArray, e1, if_neg (by omega), if_pos (by simp; omega), Nat.add_sub_cancel_left]; exact hq
            | succ m =>
              obtain ⟨ds', hd', hc'⟩ := h5 m x' (by simpa using hm)
              refine ⟨ds', hd', fun q v hq => ?_⟩
              rw [show j + (m + 1) = j + 1 + m by omega]; exact hc' q v hq
        · cases h
      · cases h
    · cases h

theorem typed_tags (E : Env) (t : TypeId) (p : PV) (s : SV) (h : E.typed t p = .sv s) : ∃ s0, p = .sv s0 ∧ ∀ m ∈ tagsOf s.cells, m ∈ tagsOf s0.cells := by
  unfold Env.typed at h
  split at h
  · refine ⟨_, rfl, ?_⟩
    split at h
    · split at h
      · cases h; intro m hm; simp [tagsOf, SV.cells, PC.tag] at hm
      · cases h; exact fun m hm => hm
    · cases h; exact fun m hm => hm
  · exact ⟨s, h, fun m hm => hm⟩

theorem partTags_mem : ∀ {parts : List (Nat × Operand)} {p : Nat × Operand} {s : SV}, p ∈ parts → σ.ev p.2 = .sv s → ∀ m ∈ tagsOf s.cells, m ∈ partTags σ parts
  | (i, x) :: r, p, s, hp, hs, m, hm => by
    simp only [partTags, List.mem_append]
    rcases List.mem_cons.1 hp with rfl | hp
    · left; simp only at hs; rw [hs]; exact hm
    · right; exact partTags_mem hp hs m hm

theorem buildSlice_sound {t : TypeId} {n : Nat} {parts : Array (Nat × Operand)} (hE : TypesOK X.P X.E) (ho : o.op = .buildSlice t n parts) (hd : ∀ d, o.dst = some d → d < X.n) (h : opK X.E run σ o some = some σ') : OpSound X o σ σ' := by
  simp only [opK, ho] at h
  split at h
  · rename_i i hti
    have ht := hE.ti t i hti
    split at h
    · rename_i e e' u hid hty
      split at h
      · rename_i ie hte
        have hte' := hE.ti e ie hte
        split at h
        · rename_i hcond
          obtain ⟨rfl, hcap, hsz, hety⟩ := hcond
          split at h
          · rename_i l hl
            split at h
            · rename_i d hdst
              cases h
              intro A0 a w hi0 hdef next Q hn
              obtain ⟨dd, hu, hk⟩ := ht.und
              rw [hid] at hk
              cases dd <;> try exact hk.elim
              have hk' : e' = _ := hk
              subst hk'
              obtain ⟨te, he1, he2, _, z, hz, hzs, hzv⟩ := hte'.info
              have hpos := Ty.sz_pos u
              obtain ⟨A1, hi1, _, hpl⟩ := released_plain hi0 (partTags σ parts.toList)
              have hsz' : te.size = u.sz := by rw [he2, hsz]
              obtain ⟨cells', h1, h2, h3, _, h5⟩ := elems_fill (A := A1) (a := a) (w := w) (e := e') hpos parts.toList (fun p hp s hs y hy => by
                obtain ⟨s0, hs0, hm0⟩ := typed_tags X.E e' _ s hs
                have hx : RP (X.F A0) A0 w _ _ := typed_sound e' (ev_sound hi0 p.2)
                rw [hs] at hx
                exact hpl _ _ (RS.cells hx) (fun m hm => partTags_mem hp hs0 m (hm0 m hm)) u y hy) n 0 l ((Array.range (n * te.size)).map (z.cells[· % z.cells.size]!)) hl (by simp [hsz']) (fun k hk1 hk2 j v hj => by
                  have hjl := (List.getElem?_eq_some_iff.1 hj).1
                  rw [zeroVals_len] at hjl
                  have hzu := hzv u hety
                  have hzl : z.cells.size = u.sz := by rw [hzs, hsz]
                  have hk3 : (k + 1) * u.sz ≤ n * u.sz := Nat.mul_le_mul_right _ (by omega)
                  rw [Nat.add_mul, Nat.one_mul] at hk3
                  rw [Array.getElem?_map, Array.getElem?_range, if_pos (by rw [hsz']; omega), Option.map_some, hzl, Nat.mul_comm k, Nat.mul_add_mod, Nat.mod_eq_of_lt hjl]
                  rw [← hzu, Array.getElem?_toList] at hj
                  rw [getElem!_def, hj])
              have hcap' : n ≤ 16777216 := by
                have : n * 1 ≤ n * ie.size := Nat.mul_le_mul_left _ (by omega)
                omega
              have hcs : cells'.toList.length = l.length * u.sz := by
                rw [Array.length_toList, h2, h3]; simp [hsz']
              obtain ⟨A2, hi2, hc2⟩ := fresh_own (e := e') (rest := #[]) hi1 (l := [tagOf d 0 0]) (n := tagOf d 0 0) (by simp) (zs := l) (cap := n) (by omega) (by simp only [maxLen]; omega) hcs (by simp [h3]) (fun m x hm => by
                obtain ⟨ds, hd1, hd2⟩ := h5 m x hm
                refine ⟨ds, hd1, fun j v hj => ?_⟩
                have := hd2 j v hj
                rw [Nat.zero_add] at this
                simpa using this) (w0 := w) (.inl rfl)
              have harr : cells'.toList.toArray ++ #[] = cells' := by simp
              rw [harr] at hi2 hc2
              have hmap : ∀ (a : Act), (parts.map fun (i, x) => (i, a.eval x)).toList = parts.toList.map fun p => (p.1, a.eval p.2) := fun a => by simp
              have hrun : (execOp a.eval o).run X.P w = .ok (.value (.slice (some ⟨w.heap.size, 0, none⟩) n n)) (w.alloc (.cells cells' e')) := by
                have hfill : Instr.fill (fun i => some (i * te.size, te.size)) ((Array.range (n * te.size)).map (z.cells[· % z.cells.size]!)) (List.map (fun x => (x.fst, a.eval x.snd)) parts.toList) = some cells' := by
                  rw [hsz']; rw [hsz'] at h1; exact h1
                have hle : ¬ (16777216 < n * te.size) := by rw [he2]; omega
                simp only [execOp, ho, Instr.buildSlice, Sem.run_bind, run_underlying hu, Result.andThen_ok]
                by_cases h0 : n * te.size = 0
                · have hr0 : ∀ f : Nat → Value, (Array.range 0).map f = #[] := fun f => Array.eq_empty_of_size_eq_zero (by simp)
                  rw [h0, hr0] at hfill
                  simp [sizeOf, typeInfo, he1, h0, newRow, hr0, hfill]
                · simp [sizeOf, typeInfo, zeroValue, he1, hle, h0, hz, newRow, hfill]
              rw [h3] at hc2
              refine wp_value hrun (hn A2 _ _ ?_ (by rw [put_defers]; exact hdef))
              rw [hdst]
              exact hi2.put (fun d' hd' => hd d' (by rw [hdst]; exact hd')) fun _ => hc2
            · cases h
          · cases h
        · cases h
      · cases h
    · cases h
  · cases h

end
end Go.Sv
