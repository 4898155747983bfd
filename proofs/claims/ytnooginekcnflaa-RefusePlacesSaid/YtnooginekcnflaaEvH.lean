/- Each operation of the evaluator is sound: stores, boxes, rows that are made. -/
import Derived.Test.YtnooginekcnflaaEvG
namespace Go.Sv
open Go

section
variable {X : Ctx} {run : Runs X.E} {o : Oper} {σ σ' : St}

theorem Kept.setRow {G : Nat → Prop} {W w : World} (h : Kept G W w) {b : Nat} (hb : W.heap.size ≤ b ∨ G b) (vs : Array Value) : Kept G W (w.setRow b vs) :=
  ⟨h.os, h.tape, h.output, by rw [size_setRow]; exact h.size, fun k hk hg => by
    have hne : k ≠ b := fun e => by subst e; rcases hb with hb | hb; omega; exact hg hb
    rw [setRow_other w b k vs hne]; exact h.block k hk hg⟩

theorem Inv.setBox {A : Fr} {tm : Array Value} {w : World} (h : Inv X A σ tm w) {d b : Nat} {tid : TypeId} {vs vs' : Array Value} {cs' : List PC} (hbx : A.bx d = some b)
    (hh : w.heap[b]? = some (.cells vs tid (0, 0))) (hc : RCs (X.F A) A w cs' vs'.toList) :
    Inv X A { σ with b := (d, (tid, cs')) :: delB σ.b d } tm (w.setRow b vs') := by
  have hF : X.F A b := .inr (.inl ⟨d, hbx⟩)
  have hk : ∀ k, k ≠ b → (w.setRow b vs').heap[k]? = w.heap[k]? := fun k hk => setRow_other w b k vs' hk
  have S : Step (X.F A) (X.F A) w (w.setRow b vs') := ⟨fun k hf _ => hk k fun e => hf (e ▸ hF), fun _ hf => .inl hf⟩
  have st : ∀ c, Stays A A w (w.setRow b vs') c := fun c => by
    cases c with
    | slice e t xs g => cases g with
      | own n => exact ⟨fun h => h, fun g l hg => ⟨hg, hk g fun e => h.good.bt d n b l hbx (e ▸ hg)⟩⟩
      | _ => trivial
    | elemT u n i o => exact fun g l hg => hg
    | box d o => exact fun _ h => h
    | _ => trivial
  refine ⟨h.sz, h.kept.setRow (h.good.bxm d b hbx).1 vs', h.glob.step S, fun i => ?_, fun d' tid' cs hd' => ?_, ?_, fun q hq => ?_⟩
  · refine RP.step S ?_ (h.slot i)
    show (σ.get i).all _
    cases σ.get i with
    | sv s => exact fun c _ => st c
    | tup l => exact fun s _ c _ => st c
    | _ => trivial
  · simp only [getB] at hd'
    cases hb : Nat.beq d d' with
    | true =>
      have := Nat.eq_of_beq_eq_true hb
      subst this
      simp only [hb, cond_true, Option.some.injEq, Prod.mk.injEq] at hd'
      obtain ⟨rfl, rfl⟩ := hd'
      exact ⟨b, vs', hbx, setRow_heap w b vs vs' tid (0, 0) hh, hc.step S fun c _ => st c⟩
    | false =>
      have hne : d' ≠ d := fun e => by rw [e, Nat.beq_refl] at hb; cases hb
      simp only [hb, cond_false, getB_delB, hne, if_false] at hd'
      obtain ⟨b1, vs1, h1, h2, h3⟩ := h.box d' tid' cs hd'
      have hbne : b1 ≠ b := fun e => hne (h.good.bxi d' d b1 h1 (e ▸ hbx))
      exact ⟨b1, vs1, h1, (hk b1 hbne).trans h2, h3.step S fun c _ => st c⟩
  · exact ⟨fun d b hb => by rw [size_setRow]; exact h.good.bxm d b hb, fun n b l hb => by rw [size_setRow]; exact h.good.tgm n b l hb, h.good.bxi, h.good.tgi, h.good.bt, h.good.f0⟩
  · obtain ⟨v, hv⟩ := h.ent q hq
    refine ⟨v, RP.step S ?_ hv⟩
    cases q.2 with
    | sv s => exact fun c _ => st c
    | tup l => exact fun s _ c _ => st c
    | _ => trivial

theorem Inv.setElem {A : Fr} {tm : Array Value} {w : World} (h : Inv X A σ tm w) {g b : Nat} {u : Ty} {e : TypeId} {xs : List u.den} {cur : Array Value} {cap : Nat} (htg : A.tg g = some (b, xs.length))
    (hh : w.heap[b]? = some (.cells cur e (0, 0))) (hcap : xs.length ≤ cap) (hcm : cap ≤ maxLen) (hcs : cur.size = cap * u.sz)
    (hrow : ∀ i x, xs[i]? = some x → ∃ ds, Cl (X.F A) w u x ds ∧ ∀ j z, ds[j]? = some z → cur[i * u.sz + j]? = some z)
    {i : Nat} (hi : i < xs.length) {y : u.den} {ys : List Value} (hy : Cl (X.F A) w u y ys) {cur' : Array Value} (hs' : cur'.size = cur.size)
    (hin : ∀ j z, ys[j]? = some z → cur'[i * u.sz + j]? = some z) (hout : ∀ k, (k < i * u.sz ∨ (i + 1) * u.sz ≤ k) → cur'[k]? = cur[k]?) :
    Inv X A (σ.map (PC.setOwn g u (xs.set i y))) tm (w.setRow b cur') := by
  have hF : X.F A b := .inr (.inr ⟨g, _, htg⟩)
  have hk : ∀ k, k ≠ b → (w.setRow b cur').heap[k]? = w.heap[k]? := fun k hk => setRow_other w b k cur' hk
  have S : Step (X.F A) (X.F A) w (w.setRow b cur') := ⟨fun k hf _ => hk k fun e => hf (e ▸ hF), fun _ hf => .inl hf⟩
  have hnew := setRow_heap w b cur cur' e (0, 0) hh
  refine h.map (fun c v hc => ?_) (h.kept.setRow (h.good.tgm g b _ htg).1 cur') S
    ⟨fun d b hb => by rw [size_setRow]; exact h.good.bxm d b hb, fun n b l hb => by rw [size_setRow]; exact h.good.tgm n b l hb, h.good.bxi, h.good.tgi, h.good.bt, h.good.f0⟩
    (fun d tid cs b1 vs _ hb hw => ⟨hb, (hk b1 fun e => h.good.bt d g b _ (e ▸ hb) htg).trans hw⟩)
  cases c with
  | slice e1 t1 xs1 q =>
    cases q with
    | no => exact RC.step S trivial hc
    | nil => exact RC.step S trivial hc
    | exact => exact RC.step S trivial hc
    | own n =>
      unfold PC.setOwn
      cases hb : Nat.beq n g with
      | true =>
        have := Nat.eq_of_beq_eq_true hb
        subst this
        simp only [hb, cond_true]
        split
        · rename_i hu
          subst hu
          rcases hc with ⟨hn, _⟩ | ⟨b1, l, hb1, hl, cap1, cur1, rfl, hh1, h1, h2, h3, h4⟩
          · rw [hn] at htg; cases htg
          · rw [htg] at hb1
            cases hb1
            rw [hh] at hh1
            cases hh1
            refine .inr ⟨b, _, htg, by simp, cap1, cur', by simp [hl], hnew, by simp [hl, h1], h2, by rw [hs']; exact h3, fun k x hx => ?_⟩
            rw [List.getElem?_set] at hx
            split at hx
            · rename_i hki
              subst hki
              simp only [hi, if_true, Option.some.injEq] at hx
              subst hx
              exact ⟨ys, hy.step S, hin⟩
            · rename_i hki
              obtain ⟨ds, hds, hcell⟩ := hrow k x hx
              refine ⟨ds, hds.step S, fun j z hj => ?_⟩
              have hjl := (List.getElem?_eq_some_iff.1 hj).1
              rw [hds.length] at hjl
              rw [hout _ ?_]; exact hcell j z hj
              rcases Nat.lt_or_gt_of_ne hki with h5 | h5
              · right
                have : (i + 1) * u.sz ≤ k * u.sz := Nat.mul_le_mul_right _ h5
                omega
              · left
                have : (k + 1) * u.sz ≤ i * u.sz := Nat.mul_le_mul_right _ h5
                rw [Nat.add_mul] at this; omega
        · exact RC.one hc
      | false =>
        simp only [hb, cond_false]
        have hne : n ≠ g := fun e => by rw [e, Nat.beq_refl] at hb; cases hb
        exact RC.step S ⟨fun h => h, fun b1 l hg => ⟨hg, hk b1 fun e => hne (h.good.tgi n g b l _ (e ▸ hg) htg)⟩⟩ hc
  | elemT u n i o => exact RC.step S (fun b1 l hg => hg) hc
  | box d o => exact RC.step S (fun _ h => h) hc
  | _ => exact RC.step S trivial hc

theorem alloc_sound {t : TypeId} (hE : TypesOK X.P X.E) (ho : o.op = .alloc t) (hd : ∀ d, o.dst = some d → d < X.n) (h : opK X.E run σ o some = some σ') : OpSound X o σ σ' := by
  simp only [opK, ho] at h
  split at h
  · rename_i i d hti hdst
    split at h
    · rename_i u hty
      cases hz : zeroable u with
      | false => simp [hz] at h
      | true =>
        simp only [hz, cond_true, Option.some.injEq] at h
        subst h
        intro A a w hi hdef next Q hn
        obtain ⟨z, hrz, hzs, hzv⟩ := zeroValue_run (hE.ti t i hti) w
        have hRC : RCs (X.F A) A w (zeroPC u) z.cells.toList := by rw [hzv u hty]; exact zero_RCs u
        obtain ⟨A', hA'⟩ := hi.newBox (hd d hdst) t hRC
        refine wp_value (v := .pointer (some ⟨w.heap.size, 0, none⟩)) (w' := w.alloc (.cells z.cells t)) ?_ (hn A' _ _ (by rw [hdst]; exact hA') (by rw [put_defers]; exact hdef))
        simp [execOp, ho, Instr.alloc, hrz, newVar, newRow]
    · cases h
  · cases h

theorem box_sound {t : TypeId} {x : Operand} (ho : o.op = .box t x) (hd : ∀ d, o.dst = some d → d < X.n) (h : opK X.E run σ o some = some σ') : OpSound X o σ σ' := by
  simp only [opK, ho] at h
  split at h
  · rename_i i d s hti hdst hs
    split at h
    · cases h
      intro A a w hi hdef next Q hn
      have hx : RP (X.F A) A w _ _ := typed_sound t (ev_sound hi x)
      rw [hs] at hx
      obtain ⟨A', hA'⟩ := hi.newBox (hd d hdst) t (RS.cells hx)
      refine wp_value (v := .pointer (some ⟨w.heap.size, 0, none⟩)) (w' := w.alloc (.cells (a.eval x).cells t)) ?_ (hn A' _ _ (by rw [hdst]; exact hA') (by rw [put_defers]; exact hdef))
      simp [execOp, ho, Instr.box, newVar, newRow]
    · cases h
  · cases h


theorem typeOne {F : Nat → Prop} {A : Fr} {w : World} {cs : List PC} {vs : List Value} (h : RCs F A w cs vs) : ∀ v ∈ vs, v.oneCell' = true := by
  induction h with
  | nil => intro v hv; cases hv
  | cons h0 _ ih =>
    intro v hv
    rcases List.mem_cons.1 hv with rfl | hv
    · exact RC.one h0
    · exact ih v hv

theorem forall2_set {α β : Type} {R : α → β → Prop} {l n : List α} {m k : List β} (h : All2 R l m) (hn : All2 R n k) (o : Nat) :
    All2 R (l.take o ++ n ++ l.drop (o + n.length)) (m.take o ++ k ++ m.drop (o + k.length)) := by
  have app : ∀ {a b : List α} {c d : List β}, All2 R a c → All2 R b d → All2 R (a ++ b) (c ++ d) := fun h1 h2 => by
    induction h1 with
    | nil => exact h2
    | cons h0 _ ih => exact .cons h0 ih
  rw [hn.length]
  exact app (app (forall2_take h o) hn) (forall2_drop h _)

theorem splice_get {α : Type} (L V : List α) (a k : Nat) (ha : a + V.length ≤ L.length) :
    (L.take a ++ V ++ L.drop (a + V.length))[k]? = if k < a then L[k]? else if k < a + V.length then V[k - a]? else L[k]? := by
  have hlen : (L.take a).length = a := by rw [List.length_take]; omega
  rw [List.append_assoc]
  by_cases h1 : k < a
  · rw [List.getElem?_append_left (by omega), if_pos h1, List.getElem?_take, if_pos h1]
  · rw [List.getElem?_append_right (by omega), if_neg h1, hlen]
    by_cases h2 : k < a + V.length
    · rw [List.getElem?_append_left (by omega), if_pos h2]
    · rw [List.getElem?_append_right (by omega), if_neg h2, List.getElem?_drop]
      congr 1; omega

theorem storeVar_run {P : Program} {t : TypeId} {i : TI} (ht : TIOK P t i) {w : World} {b off : Nat} {cur : Array Value} {tid : TypeId} (hh : w.heap[b]? = some (.cells cur tid (0, 0))) {v : Value}
    (hsz : v.cells.size = i.size) (hfit : off + i.size ≤ cur.size) (h1 : ∀ u ∈ v.cells.toList, u.oneCell' = true) :
    (storeVar t ⟨b, off, none⟩ v).run P w = .ok () (w.setRow b (cur.toList.take off ++ v.cells.toList ++ cur.toList.drop (off + v.cells.toList.length)).toArray) := by
  unfold storeVar
  have hs := sizeOf_run ht w
  simp only [Sem.run_bind, hs, Result.andThen_ok, hsz, ne_eq, not_true_eq_false, if_false]
  have := run_storeCells_at P b off tid v.cells.toList 0 cur w hh (by simp [hsz]; omega) h1
  simpa using this

theorem plain_toPC {F : Nat → Prop} {A : Fr} {w : World} : ∀ (u : Ty) (x : u.den), ∀ c ∈ u.toPC x, Plain F A w c
  | .bool, x, c, hc => by rw [List.mem_singleton.1 hc]; trivial
  | .int _, x, c, hc => by rw [List.mem_singleton.1 hc]; trivial
  | .str, x, c, hc => by rw [List.mem_singleton.1 hc]; trivial
  | .fn, x, c, hc => by rw [List.mem_singleton.1 hc]; trivial
  | .slice _ _, x, c, hc => by rw [List.mem_singleton.1 hc]; trivial
  | .pair a b, x, c, hc => by
    rcases List.mem_append.1 hc with hc | hc
    · exact plain_toPC a _ c hc
    · exact plain_toPC b _ c hc

theorem store_sound {t : TypeId} {p x : Operand} (hE : TypesOK X.P X.E) (ho : o.op = .store t p x) (hd : ∀ d, o.dst = some d → d < X.n) (h : opK X.E run σ o some = some σ') : OpSound X o σ σ' := by
  simp only [opK, ho] at h
  split at h
  · rename_i s hs
    unfold storeK at h
    split at h
    · cases h
    · rename_i i hti
      have ht := hE.ti t i hti
      split at h
      · rename_i hlen
        split at h
        · rename_i d off hev
          split at h
          · rename_i tid cs hb
            split at h
            · rename_i hfit
              cases h
              intro A a w hi hdef next Q hn
              have hx : RP (X.F A) A w _ _ := typed_sound t (ev_sound hi x)
              rw [hs] at hx
              have hp := ev_sound hi p
              rw [hev] at hp
              obtain ⟨b, hbx, he⟩ := hp
              obtain ⟨b', vs, hbx', hh, hc⟩ := hi.box d tid cs hb
              rw [hbx] at hbx'
              cases hbx'
              have hcells := RS.cells hx
              have hvs : (a.eval x).cells.size = i.size := by have := hcells.length; simp at this; omega
              have hcl := hc.length
              simp at hcl
              have hnew := hi.setBox (tid := tid) hbx hh (vs' := (vs.toList.take off ++ (a.eval x).cells.toList ++ vs.toList.drop (off + (a.eval x).cells.toList.length)).toArray) (cs' := setCells cs s.cells off) (forall2_set hc hcells off)
              refine wp_skipped (w' := _) (by simp only [execOp, ho, Instr.storeAt, Instr.sureAddr, he, Sem.run_bind, Sem.run_pure, Result.andThen_ok]; rw [storeVar_run ht hh hvs (by omega) (typeOne hcells)]; rfl) (hn A _ _ (hnew.put hd fun _ => trivial) (by rw [put_defers]; exact hdef))
            · cases h
          · cases h
        · rename_i u g n off hev
          split at h
          · rename_i u' e xs hf
            split at h
            · rename_i hfit
              obtain ⟨hu, hfit⟩ := hfit
              subst hu
              split at h
              · rename_i y hy
                cases hm : mem (tagsOf s.cells) g with
                | true => simp [hm] at h
                | false =>
                  simp only [hm, cond_false, Option.some.injEq] at h
                  subst h
                  intro A0 a w hi0 hdef next Q hn
                  have hx0 : RP (X.F A0) A0 w _ _ := typed_sound t (ev_sound hi0 x)
                  rw [hs] at hx0
                  have hp := ev_sound hi0 p
                  rw [hev] at hp
                  obtain ⟨b, cap, cur, htg, he, h0, hlt, hh, h1, h2, h3, h4⟩ := elemT_at hi0 hf hp
                  obtain ⟨A', hi, hA', _⟩ := hi0.release (tagsOf s.cells)
                  have S : Step (X.F A0) (X.F A') w w := by
                    rcases hA' with rfl | rfl
                    · exact Step.refl _ _
                    · exact Step.drop _ _ _ _
                  have htg' : A'.tg g = some (b, xs.length) := by
                    rcases hA' with rfl | rfl
                    · exact htg
                    · simp [Fr.drop, hm, htg]
                  have hcells := RS.cells hx0
                  have hvs : (a.eval x).cells.toList.length = i.size := by rw [← hcells.length]; exact hlen
                  have hc' : RCs (X.F A') A0 w s.cells (a.eval x).cells.toList := hcells.step S fun c _ => (Ext.refl A0 w).stays c
                  have hplain : ∀ c ∈ s.cells, Plain (X.F A') A0 w c := fun c hc => by
                    cases c with
                    | slice e1 t1 xs1 q => cases q with
                      | own m =>
                        intro g1 l1 hg1
                        have hmem : m ∈ tagsOf s.cells := List.mem_flatMap.2 ⟨_, hc, List.mem_singleton.2 rfl⟩
                        refine ⟨?_, (hi0.good.tgm m g1 l1 hg1).2⟩
                        rcases ‹(tagsOf s.cells = [] ∧ A' = A0) ∨ A' = A0.drop (tagsOf s.cells)› with ⟨hnil, _⟩ | rfl
                        · rw [hnil] at hmem; cases hmem
                        · exact hi0.good.notF hg1 hmem
                      | _ => trivial
                    | _ => trivial
                  obtain ⟨ds, hds, hcell⟩ := h4 _ _ (rd_get hlt)
                  have hds' := hds.step S
                  have hdl := hds.length
                  have hy' : Cl (X.F A') w u y (ds.take off ++ (a.eval x).cells.toList ++ ds.drop (off + (a.eval x).cells.toList.length)) := by
                    refine RCs.ofPC (A := A0) hy (fun c hc => ?_) (forall2_set hds'.toPC hc' off)
                    simp only [setCells, List.mem_append] at hc
                    rcases hc with (hc | hc) | hc
                    · exact plain_toPC u _ c (List.mem_of_mem_take hc)
                    · exact hplain c hc
                    · exact plain_toPC u _ c (List.mem_of_mem_drop hc)
                  have hpos := Ty.sz_pos u
                  have hmul : (n.toNat + 1) * u.sz ≤ cap * u.sz := Nat.mul_le_mul_right _ (by omega)
                  rw [Nat.add_mul, Nat.one_mul] at hmul
                  have hfit' : n.toNat * u.sz + off + i.size ≤ cur.size := by omega
                  have hcurlen : cur.toList.length = cur.size := by simp
                  have hin := hi.setElem htg' hh h1 h2 h3 (fun k x hk => by obtain ⟨ds, hd, hc⟩ := h4 k x hk; exact ⟨ds, hd.step S, hc⟩) hlt hy'
                    (cur' := (cur.toList.take (n.toNat * u.sz + off) ++ (a.eval x).cells.toList ++ cur.toList.drop (n.toNat * u.sz + off + (a.eval x).cells.toList.length)).toArray)
                    (by
                      have := hvs
                      simp only [List.size_toArray, List.length_append, List.length_take, List.length_drop]
                      omega)
                    (fun j z hj => by
                      rw [splice_get _ _ _ _ (by omega)] at hj
                      rw [List.getElem?_toArray, splice_get _ _ _ _ (by rw [hcurlen]; omega)]
                      by_cases q1 : j < off
                      · rw [if_pos q1] at hj; rw [if_pos (by omega)]; simpa using hcell j z hj
                      · rw [if_neg q1] at hj; rw [if_neg (by omega)]
                        by_cases q2 : j < off + (a.eval x).cells.toList.length
                        · rw [if_pos q2] at hj; rw [if_pos (by omega), show n.toNat * u.sz + j - (n.toNat * u.sz + off) = j - off by omega]; exact hj
                        · rw [if_neg q2] at hj; rw [if_neg (by omega)]; simpa using hcell j z hj)
                    (fun k hk => by
                      rw [List.getElem?_toArray, splice_get _ _ _ _ (by rw [hcurlen]; omega)]
                      rw [Nat.add_mul, Nat.one_mul] at hk
                      by_cases q1 : k < n.toNat * u.sz + off
                      · rw [if_pos q1]; simp
                      · rw [if_neg q1, if_neg (by omega)]; simp)
                  refine wp_skipped (w' := _) (by simp only [execOp, ho, Instr.storeAt, Instr.sureAddr, he, Sem.run_bind, Sem.run_pure, Result.andThen_ok]; rw [storeVar_run ht hh (by simpa using hvs) hfit' (typeOne hcells)]; rfl) (hn A' _ _ (hin.put hd fun _ => trivial) (by rw [put_defers]; exact hdef))
              · cases h
            · cases h
          · cases h
        · cases h
      · cases h
  · cases h

end
end Go.Sv
