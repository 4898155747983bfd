/- Each operation of the evaluator is sound: addresses, arithmetic, cuts. -/
import Derived.Test.YtnooginekcnflaaEvD
namespace Go.Sv
open Go

section
variable {X : Ctx} {run : Runs X.E} {o : Oper} {σ σ' : St}

theorem proj_cl {F : Nat → Prop} {w : World} : ∀ {n i : Nat} {t : Ty} {x : t.den} {u : Ty} {y : u.den}, Ty.proj n i t x = some ⟨u, y⟩ → ∀ {cs : List Value}, Cl F w t x cs →
    ∃ off, Ty.offs n i t = some (off, u) ∧ ∃ ds, Cl F w u y ds ∧ ∀ j v, ds[j]? = some v → cs[off + j]? = some v
  | 0, i, t, x, u, y, h => by simp [Ty.proj] at h
  | 1, 0, t, x, u, y, h => by
    intro hc
    simp only [Ty.proj, Option.some.injEq] at h
    cases h
    exact ⟨0, by simp [Ty.offs], _, hc, fun j v hj => by simpa using hj⟩
  | 1, i + 1, t, x, u, y, h => by simp [Ty.proj] at h
  | n + 2, i, t, x, u, y, h => by
    intro hc
    cases t with
    | pair a b =>
      rw [Cl] at hc
      obtain ⟨c1, c2, rfl, h1, h2⟩ := hc
      cases i with
      | zero =>
        simp only [Ty.proj, Option.some.injEq] at h
        cases h
        refine ⟨0, by simp [Ty.offs], c1, h1, fun j v hj => ?_⟩
        rw [Nat.zero_add, List.getElem?_append_left (List.getElem?_eq_some_iff.1 hj).1]; exact hj
      | succ i =>
        simp only [Ty.proj] at h
        obtain ⟨off, ho, ds, hd, hcell⟩ := proj_cl h h2
        refine ⟨a.sz + off, by simp [Ty.offs, ho], ds, hd, fun j v hj => ?_⟩
        rw [Nat.add_assoc, List.getElem?_append_right (by rw [h1.length]; omega), h1.length, Nat.add_sub_cancel_left]
        exact hcell j v hj
    | _ => simp [Ty.proj] at h

theorem fieldAt_run {P : Program} {t : TypeId} {i : TI} (ht : TIOK P t i) {fs : List (Nat × TypeId)} (hd : i.d = .struct fs) {f off : Nat} {ft : TypeId} (hf : fs[f]? = some (off, ft)) (ad : Addr) (w : World) :
    (Instr.fieldAt t (.pointer (some ad)) f).run P w = .ok (.pointer (some (ad.add off))) w := by
  obtain ⟨d, hu, hk⟩ := ht.und
  rw [hd] at hk
  cases d with
  | struct fields =>
    have hk' : fields.toList.map (fun f => (f.offset, f.type)) = fs := hk
    obtain ⟨tf, hti, hnz⟩ := ht.fields fs hd (off, ft) (List.mem_of_getElem? hf)
    have hget : ∃ g, fields[f]? = some g ∧ g.offset = off ∧ g.type = ft := by
      rw [← hk', List.getElem?_map] at hf
      cases hg : fields.toList[f]? with
      | none => simp [hg] at hf
      | some g =>
        simp only [hg, Option.map_some, Option.some.injEq, Prod.mk.injEq] at hf
        exact ⟨g, by simpa using hg, hf.1, hf.2⟩
    obtain ⟨g, hg, rfl, rfl⟩ := hget
    simp [Instr.fieldAt, run_underlying hu, hg, Instr.sureAddr, fieldPlace, sizeOf, typeInfo, hti, hnz]
  | _ => exact hk.elim

theorem cell_add (w : World) (a : Addr) (m n : Nat) (v : Value) (h : w.cell? (a.add (m + n)) = some v) (h0 : (a.add m).spot = none) : w.cell? ((a.add m).add n) = some v := by
  rw [← h]; congr 1
  obtain ⟨b, o, s⟩ := a
  by_cases hm : m = 0
  · subst hm
    have h0' : s = none := by simpa [Addr.add] using h0
    subst h0'
    simp only [add_off]; simp
  · have e : (⟨b, o, s⟩ : Addr).add m = ⟨b, o + m, none⟩ := by simp [Addr.add, hm]
    have e2 : (⟨b, o, s⟩ : Addr).add (m + n) = ⟨b, o + (m + n), none⟩ := by simp [Addr.add, hm]
    rw [e, e2, add_off, Nat.add_assoc]

theorem spot_none {w : World} {a : Addr} {v : Value} (h : w.cell? a = some v) : a.spot = none := by
  unfold World.cell? at h
  split at h
  · cases hs : a.spot with
    | none => rfl
    | some x => simp [hs] at h
  · cases h

theorem sound_fieldAddr {t : TypeId} {p : Operand} {f : Nat} (hE : TypesOK X.P X.E) (ho : o.op = .fieldAddr t p f) (hd : ∀ d, o.dst = some d → d < X.n)
    (h : opK X.E run σ o some = some σ') : OpSound X o σ σ' := by
  simp only [opK, ho] at h
  split at h
  · rename_i i hti
    have ht := hE.ti t i hti
    split at h
    · rename_i fs hfs
      split at h
      · rename_i off ft d q hf hev
        cases h
        refine .value hd fun A a w hi => ?_
        have hx := ev_sound hi p
        rw [hev] at hx
        obtain ⟨b, hb, he⟩ := hx
        refine ⟨_, by simp [execOp, ho, he, fieldAt_run ht hfs hf] <;> rfl, b, hb, ?_⟩
        rw [add_off]
      · rename_i off ft u g n q hf hev
        cases h
        refine .value hd fun A a w hi => ?_
        have hx := ev_sound hi p
        rw [hev] at hx
        obtain ⟨b, l, hb, h0, hlt, he⟩ := hx
        refine ⟨_, by simp [execOp, ho, he, fieldAt_run ht hfs hf] <;> rfl, b, l, hb, h0, hlt, ?_⟩
        rw [add_off, Nat.add_assoc]
      · rename_i q u x hf hev
        split at h
        · rename_i u' hty
          split at h
          · rename_i hu
            subst hu
            split at h
            · rename_i t' y hp
              cases h
              refine .value hd fun A a w hi => ?_
              have hx := ev_sound hi p
              rw [hev] at hx
              obtain ⟨ad, cs, he, hF, hc, hcell⟩ := hx
              obtain ⟨off, ft⟩ := q
              obtain ⟨v', hoffs⟩ := ht.lay fs _ hfs hty f off ft hf
              obtain ⟨off', hoffs', ds, hds, hsub⟩ := proj_cl hp hc
              rw [hoffs] at hoffs'
              cases hoffs'
              have hlen := hds.length
              have hpos := Ty.sz_pos t'
              have h0 := hcell _ _ (hsub 0 (ds[0]'(by omega)) (by simp))
              have hsp := spot_none h0
              refine ⟨_, by simp [execOp, ho, he, fieldAt_run ht hfs hf] <;> rfl, ad.add off, ds, rfl, ?_, hds, fun j z hj => ?_⟩
              · have : (ad.add off).block = ad.block := by unfold Addr.add; split <;> rfl
                rw [this]; exact hF
              · exact cell_add w ad off j z (hcell _ _ (hsub j z hj)) (by simpa using hsp)
            · cases h
          · cases h
        · cases h
      · cases h
    · cases h
  · cases h

theorem idxOk_iff {n : Int} {len : Nat} (h : idxOk n len = true) : 0 ≤ n ∧ n < (len : Int) := by
  unfold idxOk at h
  simpa using h

theorem indexAt_run {P : Program} {t e : TypeId} {i : TI} (ht : TIOK P t i) (hd : i.d = .slice e) (ad : Addr) (len cap : Nat) (k : IntKind) (n : Int) (h : 0 ≤ n ∧ n < (len : Int)) {ie : TypeInfo} (he : P.info? e = some ie) (w : World) :
    (Instr.indexAt t (.slice (some ad) len cap) (.int k n)).run P w = .ok (.pointer (some (ad.add (n.toNat * ie.size)))) w := by
  obtain ⟨d, hu, hk⟩ := ht.und
  rw [hd] at hk
  cases d with
  | slice e' =>
    have : e = e' := hk
    subst this
    simp [Instr.indexAt, run_underlying hu, asIntOf, h, sizeOf, typeInfo, he]
  | _ => exact hk.elim

/-- The element type of a slice type's row. -/
structure ElemsOK (P : Program) (E : Env) : Prop where
  row : ∀ t i e u, E.ti t = some i → i.ty = some (.slice e u) → ∃ e', i.d = .slice e' ∧ ∃ ti, P.info? e' = some ti ∧ ti.size = u.sz
  el : ∀ t i e u, E.ti t = some i → i.d = .slice e → i.ty = some (.slice e u) → ∃ ti, P.info? e = some ti ∧ ti.size = u.sz
  arr : ∀ t i n e, E.ti t = some i → i.d = .array n e → ∃ ti, P.info? e = some ti

theorem sound_indexAddr {t : TypeId} {x ix : Operand} (hE : TypesOK X.P X.E) (hL : ElemsOK X.P X.E) (ho : o.op = .indexAddr t x ix) (hd : ∀ d, o.dst = some d → d < X.n)
    (h : opK X.E run σ o some = some σ') : OpSound X o σ σ' := by
  simp only [opK, ho] at h
  split at h
  · rename_i i hti
    have ht := hE.ti t i hti
    split at h
    · rename_i e e' u xs g k n hfs hex hei
      split at h
      · rename_i he
        obtain ⟨rfl, hty⟩ := he
        cases hok : idxOk n xs.length with
        | false => simp [hok] at h
        | true =>
          simp only [hok, cond_true] at h
          obtain ⟨h0, hlt⟩ := idxOk_iff hok
          have hlt' : n.toNat < xs.length := by omega
          obtain ⟨ie, hie, hsz⟩ := hL.el t i e' u hti hfs hty
          have plain : ∀ (A : Fr) (a : Act) (w : World), Inv X A σ a.tmps w → Cl (X.F A) w (.slice e' u) xs [a.eval x] → ∃ v, (execOp a.eval o).run X.P w = .ok (.value v) w ∧ RP (X.F A) A w (.sv (.one (.elem u (rd u xs n)))) v := by
            intro A a w hi hc
            have hn := ev_sound hi ix
            rw [hei] at hn
            have hn' : a.eval ix = .int k n := hn
            rw [Cl] at hc
            obtain ⟨ad, c, he, hcap, hrow⟩ := hc
            simp only [List.cons.injEq, and_true] at he
            rcases hrow with rfl | ⟨ad', rfl, hF, hrow⟩
            · simp at hlt'
            · obtain ⟨ds, hds, hcell⟩ := hrow _ _ (rd_get hlt')
              have hlen := hds.length
              have hpos := Ty.sz_pos u
              have hsp := spot_none (hcell 0 (ds[0]'(by omega)) (by simp))
              refine ⟨_, by simp [execOp, ho, he, hn', indexAt_run ht hfs ad' xs.length c k n ⟨h0, hlt⟩ hie] <;> rfl, _, ds, rfl, ?_, hds, fun j z hj => ?_⟩
              · have : (ad'.add (n.toNat * ie.size)).block = ad'.block := by unfold Addr.add; split <;> rfl
                rw [this]; exact hF
              · rw [hsz]; exact cell_add w ad' _ j z (hcell j z hj) (by simpa using hsp)
          split at h
          · rename_i m
            cases h
            refine .value hd fun A a w hi => ?_
            have hx := ev_sound hi x
            rw [hex] at hx
            have hn := ev_sound hi ix
            rw [hei] at hn
            have hn' : a.eval ix = .int k n := hn
            rcases hx with ⟨_, rfl, _⟩ | ⟨b, l, hb, hl, cap, cur, he, hh, h1, h2, h3, h4⟩
            · simp at hlt'
            · subst hl
              refine ⟨_, by simp [execOp, ho, he, hn', indexAt_run ht hfs _ xs.length cap k n ⟨h0, hlt⟩ hie] <;> rfl, b, _, hb, h0, hlt', ?_⟩
              rw [add_off, hsz]; simp
          · rename_i hg
            cases h
            refine .value hd fun A a w hi => ?_
            have hx := ev_sound hi x
            rw [hex] at hx
            cases g with
            | no => exact plain A a w hi hx
            | nil => obtain ⟨rfl, _⟩ := hx; simp at hlt'
            | exact => exact plain A a w hi hx.1
            | own m => exact (hg m rfl).elim
      · cases h
    · cases h
  · cases h

theorem byteAt_get {s : ByteArray} {n : Int} (h : idxOk n s.size = true) : ∃ b, s[n.toNat]? = some b ∧ (b.toNat : Int) = byteAt s n ∧ 0 ≤ n := by
  obtain ⟨h0, h1⟩ := idxOk_iff h
  have hlt : n.toNat < s.size := by omega
  refine ⟨s[n.toNat], ?_, ?_, h0⟩
  · exact getElem?_pos s n.toNat hlt
  · unfold byteAt
    congr 2
    have : n.toNat < s.data.size := hlt
    rw [Array.getD_eq_getD_getElem?, Array.getElem?_eq_getElem this]
    rfl

theorem extract_sound {t : Operand} {ix : Nat} (ho : o.op = .extract t ix) (hd : ∀ d, o.dst = some d → d < X.n) (h : opK X.E run σ o some = some σ') : OpSound X o σ σ' := by
  simp only [opK, ho] at h
  split at h
  · rename_i l hl
    split at h
    · rename_i s hs
      cases h
      refine .value hd fun A a w hi => ?_
      have hx := ev_sound hi t
      rw [hl] at hx
      obtain ⟨vs, he, hvs⟩ := hx
      have : ∀ {l : List SV} {vs : List Value} {ix : Nat}, All2 (RS (X.F A) A w) l vs → l[ix]? = some s → ∃ v, vs[ix]? = some v ∧ RS (X.F A) A w s v := by
        intro l vs ix h
        induction h generalizing ix with
        | nil => intro h; simp at h
        | cons h0 _ ih =>
          intro h
          cases ix with
          | zero => simp at h; subst h; exact ⟨_, rfl, h0⟩
          | succ ix => simpa using ih (by simpa using h)
      obtain ⟨v, hv, hr⟩ := this hvs hs
      refine ⟨v, ?_, hr⟩
      simp [execOp, ho, he, Instr.extract, hv]
    · cases h
  · cases h

theorem nilCheck_sound {x : Operand} (ho : o.op = .nilCheck x) (hd : ∀ d, o.dst = some d → d < X.n) (h : opK X.E run σ o some = some σ') : OpSound X o σ σ' := by
  simp only [opK, ho] at h
  have key : ∀ {c : PC}, σ.ev x = .sv (.one c) → (∀ (A : Fr) (a : Act) (w : World) (v : Value), Inv X A σ a.tmps w → RC (X.F A) A w c v → ∃ ad, v = .pointer (some ad)) → OpSound X o σ (σ.put o.dst (.sv (.one c))) := by
    intro c hc hp
    refine .value hd fun A a w hi => ?_
    have hx := ev_sound hi x
    rw [hc] at hx
    obtain ⟨ad, he⟩ := hp A a w _ hi hx
    exact ⟨a.eval x, by simp [execOp, ho, he], hx⟩
  split at h
  · cases h; exact key (by assumption) fun A a w v _ hc => by obtain ⟨b, _, rfl⟩ := hc; exact ⟨_, rfl⟩
  · cases h; exact key (by assumption) fun A a w v _ hc => by obtain ⟨b, _, rfl, _⟩ := hc; exact ⟨_, rfl⟩
  · cases h; exact key (by assumption) fun A a w v _ hc => by obtain ⟨b, _, _, _, _, rfl⟩ := hc; exact ⟨_, rfl⟩
  · cases h

theorem unOp_sound {op : UnOp} {t : TypeId} {x : Operand} (ho : o.op = .unOp op t x) (hd : ∀ d, o.dst = some d → d < X.n) (h : opK X.E run σ o some = some σ') : OpSound X o σ σ' := by
  simp only [opK, ho] at h
  split at h
  · rename_i b hx
    cases h
    refine .value hd fun A a w hi => ?_
    have hv := ev_sound hi x
    rw [hx] at hv
    have hv' : a.eval x = .bool b := hv
    exact ⟨.bool (!b), by simp [execOp, ho, hv', Op.unary], rfl⟩
  · rename_i k n hx
    cases h
    refine .value hd fun A a w hi => ?_
    have hv := ev_sound hi x
    rw [hx] at hv
    have hv' : a.eval x = .int k n := hv
    exact ⟨.int k (k.wrap (0 - n)), by simp [execOp, ho, hv', Op.unary, Op.intArith], rfl⟩
  · cases h

theorem convert_sound {src dst : TypeId} {x : Operand} (hE : TypesOK X.P X.E) (ho : o.op = .convert src dst x) (hd : ∀ d, o.dst = some d → d < X.n) (h : opK X.E run σ o some = some σ') : OpSound X o σ σ' := by
  simp only [opK, ho] at h
  split at h
  · rename_i i j k' n hi hj hx
    split at h
    · rename_i k1 k2 h1 h2
      cases h
      refine .value hd fun A a w hinv => ?_
      have hv := ev_sound hinv x
      rw [hx] at hv
      have hv' : a.eval x = .int k' n := hv
      obtain ⟨d1, hu1, hd1⟩ := (hE.ti src i hi).und
      obtain ⟨d2, hu2, hd2⟩ := (hE.ti dst j hj).und
      rw [h1] at hd1
      rw [h2] at hd2
      cases d1 <;> try exact hd1.elim
      cases d2 <;> try exact hd2.elim
      have : k2 = _ := hd2
      subst this
      exact ⟨_, by simp [execOp, ho, hv', convert, run_underlying hu1, run_underlying hu2, Conv.intToInt] <;> rfl, rfl⟩
    · cases h
  · cases h

end
end Go.Sv
