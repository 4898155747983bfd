/- What an operation that writes nothing but its own slot does in one state it does in any other that tells the same of its operands. -/
import Derived.Test.YtnooginekcnflaaEvX
namespace Go.Sv
open Go
set_option linter.unusedVariables false
set_option linter.unusedSimpArgs false

section
variable {E : Env} {run : Runs E}

theorem binK_val (op : BinOp) (t : TypeId) (a b : SV) (σ τ : St) (d : Nat) : binK E op t a b (fun c => some (τ.put (some d) (.sv (.one c)))) = (binK E op t a b fun c => some ((σ.put (some d) (.sv (.one c))).get d)).bind fun pv => some (τ.put (some d) pv) := by
  rw [binK_bind (K := fun c => some (τ.put (some d) (.sv (.one c)))), binK_bind (K := fun c => some ((σ.put (some d) (.sv (.one c))).get d)), Option.bind_assoc]
  congr 1
  funext c
  simp [get_put_self]

theorem loadK_val {σ τ : St} {t : TypeId} {p : PV} (hp : ∀ u g n o, p ≠ .sv (.one (.elemT u g n o))) (hb : ∀ q ∈ p.refs, getB τ.b q = getB σ.b q) (d : Nat) :
    loadK E τ t p (fun c => some (τ.put (some d) (.sv c))) = (loadK E σ t p fun c => some ((σ.put (some d) (.sv c)).get d)).bind fun pv => some (τ.put (some d) pv) := by
  rw [loadK_congr hp hb, loadK_bind (K := fun c => some (τ.put (some d) (.sv c))), loadK_bind (K := fun c => some ((σ.put (some d) (.sv c)).get d)), Option.bind_assoc]
  congr 1
  funext c
  simp [get_put_self]

theorem cond_val (c : Bool) (σ τ : St) (l : List Nat) (τ' σ' : St) (d : Nat) (v : PV) (h : τ' = τ.kill l) : (bif c then some (τ'.put (some d) v) else none) = (bif c then some ((σ'.put (some d) v).get d) else none).bind fun pv => some ((τ.kill l).put (some d) pv) := by
  subst h
  cases c <;> simp [get_put_self]

theorem appendK_val {σ τ : St} {ty e1 : TypeId} {u1 : Ty} {xs : List u1.den} {g : Tag} {x : PV} (d : Nat) (l : List Nat) (hg : (g = .exact ∧ l = []) ∨ (g = .nil ∧ l = [tagOf d 0 0])) :
    appendK E τ (some d) ty (.sv (.one (.slice e1 u1 xs g))) x some = (appendK E σ (some d) ty (.sv (.one (.slice e1 u1 xs g))) x fun σ' => some (σ'.get d)).bind fun pv => some ((τ.kill l).put (some d) pv) := by
  unfold appendK
  cases E.ti ty with
  | none => rfl
  | some i =>
    simp only
    generalize i.d = D
    generalize i.ty = T
    cases D with
    | slice e =>
      cases T with
      | none => rfl
      | some T =>
        cases T with
        | slice e' u =>
          simp only
          cases E.ti e with
          | none => rfl
          | some ie =>
            simp only
            by_cases hc : e' = e ∧ 0 < ie.size ∧ ie.size = u.sz
            · rw [if_pos hc, if_pos hc]
              by_cases he : e1 = e ∧ u1 = u
              · obtain ⟨rfl, rfl⟩ := he
                simp only [and_self, dite_true]
                rcases hg with ⟨rfl, rfl⟩ | ⟨rfl, rfl⟩
                · split
                  · rename_i xs' g' ys h1 h2
                    cases h1
                    exact cond_val _ σ τ [] τ σ d _ rfl
                  · rfl
                · split
                  · rename_i xs' g' ys h1 h2
                    cases h1
                    exact cond_val _ σ τ [tagOf d 0 0] _ _ d _ rfl
                  · rfl
              · simp only [he, dite_false]
                rfl
            · rw [if_neg hc, if_neg hc]; rfl
        | _ => rfl
    | _ => rfl

theorem sliceK_val {σ τ : St} {i : TI} {x : PV} {lo hi mx : Option Operand} (h1 : optInt τ lo = optInt σ lo) (h2 : optInt τ hi = optInt σ hi) (h3 : optInt τ mx = optInt σ mx) (hx : ∀ e t xs n, x ≠ .sv (.one (.slice e t xs (.own n)))) (d : Nat) :
    sliceK E i τ (some d) x lo hi mx some = (sliceK E i σ (some d) x lo hi mx fun σ' => some (σ'.get d)).bind fun pv => some (τ.put (some d) pv) := by
  have hn : ∀ e t xs g, x = .sv (.one (.slice e t xs g)) → g.names = [] := fun e t xs g e1 => by
    cases g with
    | own n => exact absurd e1 (hx e t xs n)
    | _ => rfl
  unfold sliceK
  rw [h1, h2, h3]
  split
  · split
    · simp only
      split
      · cases cutOk _ _ _ <;> simp [get_put_self]
      · rfl
    · rename_i e t xs g
      have := hn e t xs g rfl
      simp only [this, St.release]
      split
      · split
        · cases cutOk _ _ _ <;> simp [get_put_self]
        · split
          · exact cond_val _ σ τ [] τ σ d _ rfl
          · rfl
      · rfl
    · split
      · split
        · simp [get_put_self]
        · rfl
      · rfl
    · rfl
  · rfl

theorem typedSVs_refs {ts : List TypeId} {l : List SV} : ∀ s ∈ typedSVs E ts l, ∀ q ∈ s.refs, ∃ s' ∈ l, q ∈ s'.refs := by
  induction ts generalizing l with
  | nil =>
    intro s hs q hq
    cases l <;> exact ⟨s, hs, hq⟩
  | cons t ts ih =>
    intro s hs q hq
    cases l with
    | nil => cases hs
    | cons s0 l =>
      simp only [typedSVs, List.mem_cons] at hs
      rcases hs with rfl | hs
      · refine ⟨s0, List.mem_cons_self .., ?_⟩
        split at hq
        · rename_i s' he
          unfold Env.typed at he
          split at he
          · split at he
            · split at he
              · cases he; simp [SV.refs, SV.cells, PC.refs] at hq
              · cases he; simp [SV.refs, SV.cells, PC.refs] at hq
            · cases he; simp [SV.refs, SV.cells, PC.refs] at hq
          · cases he; exact hq
        · exact hq
      · obtain ⟨s', h1, h2⟩ := ih s hs q hq
        exact ⟨s', List.mem_cons_of_mem _ h1, h2⟩

theorem toPC_refs : ∀ (t : Ty) (x : t.den), ∀ c ∈ t.toPC x, c.refs = []
  | .bool, x, c, hc => by rw [List.mem_singleton.1 hc]; rfl
  | .int _, x, c, hc => by rw [List.mem_singleton.1 hc]; rfl
  | .str, x, c, hc => by rw [List.mem_singleton.1 hc]; rfl
  | .fn, x, c, hc => by rw [List.mem_singleton.1 hc]; rfl
  | .slice _ _, x, c, hc => by rw [List.mem_singleton.1 hc]; rfl
  | .pair a b, x, c, hc => by
    rcases List.mem_append.1 hc with hc | hc
    · exact toPC_refs a _ c hc
    · exact toPC_refs b _ c hc

theorem capSV_refs (c : Cap) : ∀ q ∈ (capSV c).refs, False := by
  unfold capSV
  cases c.ptr with
  | true => intro q hq; simp [SV.refs, SV.cells, PC.refs] at hq
  | false =>
    intro q hq
    simp only [cond_false, Kd.unpack, leafs_none] at hq
    have key : ∀ s : SV, (∀ c' ∈ s.cells, c' ∈ c.t.toPC c.x) → q ∈ s.refs → False := fun s hs hq => by
      obtain ⟨c', h1, h2⟩ := List.mem_flatMap.1 hq
      rw [toPC_refs _ _ c' (hs c' h1)] at h2
      cases h2
    cases hp : c.t.isPair with
    | true => simp only [hp, cond_true] at hq; exact key (.agg (c.t.toPC c.x)) (fun c' h => h) hq
    | false =>
      simp only [hp, cond_false] at hq
      split at hq
      · rename_i c0 he
        exact key (.one c0) (fun c' h => by rw [he]; exact h) hq
      · exact key (.agg (c.t.toPC c.x)) (fun c' h => h) hq

theorem evSVs_refs {σ : St} : ∀ {l : List Operand} {args : List SV}, evSVs σ l = some args → ∀ s ∈ args, ∀ q ∈ s.refs, ∃ x ∈ l, q ∈ (σ.ev x).refs
  | [], args, h, s, hs, q, hq => by simp only [evSVs, Option.some.injEq] at h; subst h; cases hs
  | x :: r, args, h, s, hs, q, hq => by
    simp only [evSVs] at h
    split at h
    · rename_i s0 l0 h1 h2
      cases h
      rcases List.mem_cons.1 hs with rfl | hs
      · exact ⟨x, List.mem_cons_self .., by rw [h1]; exact hq⟩
      · obtain ⟨y, hy, hq'⟩ := evSVs_refs h2 s hs q hq
        exact ⟨y, List.mem_cons_of_mem _ hy, hq'⟩
    · cases h

/-- What an operation does in one state it does in any other that tells the same of its operands. -/
theorem opK_local {σ τ : St} {o : Oper} {d : Nat} (hd : o.dst = some d) (hv : okV E σ o d = true) (hev : ∀ x ∈ o.op.operands.toList, τ.ev x = σ.ev x) (hb : ∀ x ∈ o.op.operands.toList, ∀ q ∈ (σ.ev x).refs, getB τ.b q = getB σ.b q) :
    ∃ l, (∀ n ∈ l, n / 64 = d) ∧ opK E run τ o some = (opK E run σ o fun σ' => some (σ'.get d)).bind fun pv => some ((τ.kill l).put (some d) pv) := by
  cases ho : o.op with
  | move x =>
    have e := hev x (by simp [ho, Op.operands])
    refine ⟨[], by simp, ?_⟩
    simp only [opK, ho, hd, e, Option.bind_some, get_put_self, St.kill]
  | assign x =>
    have e := hev x (by simp [ho, Op.operands])
    refine ⟨[], by simp, ?_⟩
    simp only [opK, ho, hd, e, Option.bind_some, get_put_self, St.kill]
  | pick c x y =>
    have e1 := hev c (by simp [ho, Op.operands])
    have e2 := hev x (by simp [ho, Op.operands])
    have e3 := hev y (by simp [ho, Op.operands])
    refine ⟨[], by simp, ?_⟩
    simp only [opK, ho, hd, e1, e2, e3, St.kill]
    split
    · rename_i t _
      cases t <;> simp [get_put_self]
    · rfl
  | build t p =>
    have e : ∀ q ∈ p.toList, τ.ev q.2 = σ.ev q.2 := fun q hq => hev q.2 (by simp only [ho, Op.operands]; exact List.mem_map.2 ⟨q, hq, rfl⟩)
    refine ⟨[], by simp, ?_⟩
    simp only [opK, ho, hd, St.kill, fillParts_congr _ e]
    repeat' (first | rfl | (simp only [Option.bind_some, get_put_self]; done) | split)
  | buildSlice t n p =>
    have e : ∀ q ∈ p.toList, τ.ev q.2 = σ.ev q.2 := fun q hq => hev q.2 (by simp only [ho, Op.operands]; exact List.mem_map.2 ⟨q, hq, rfl⟩)
    have hp : partTags σ p.toList = [] := by
      simp only [okV, ho] at hv
      split at hv
      · assumption
      · cases hv
    refine ⟨[tagOf d 0 0], fun n hn => by rw [List.mem_singleton.1 hn]; unfold tagOf; omega, ?_⟩
    simp only [opK, ho, hd, elemsOf_congr _ _ e, partTags_congr e, hp, St.release]
    repeat' (first | rfl | (simp only [Option.bind_some, get_put_self]; done) | split)
  | load t p =>
    have e := hev p (by simp [ho, Op.operands])
    have hbp := hb p (by simp [ho, Op.operands])
    have hne : ∀ u g n o, σ.ev p ≠ .sv (.one (.elemT u g n o)) := fun u g n o h => by simp [okV, ho, h] at hv
    refine ⟨[], by simp, ?_⟩
    simp only [opK, ho, hd, e, St.kill]
    exact loadK_val hne hbp d
  | binOp op t x y z =>
    have e1 := hev x (by simp [ho, Op.operands])
    have e2 := hev y (by simp [ho, Op.operands])
    refine ⟨[], by simp, ?_⟩
    simp only [opK, ho, hd, e1, e2, St.kill]
    split
    · exact binK_val ..
    · rfl
  | unOp op t x =>
    have e := hev x (by simp [ho, Op.operands])
    refine ⟨[], by simp, ?_⟩
    simp only [opK, ho, hd, e, St.kill]
    repeat' (first | rfl | (simp only [Option.bind_some, get_put_self]; done) | split)
  | convert a b x =>
    have e := hev x (by simp [ho, Op.operands])
    refine ⟨[], by simp, ?_⟩
    simp only [opK, ho, hd, e, St.kill]
    repeat' (first | rfl | (simp only [Option.bind_some, get_put_self]; done) | split)
  | fieldAddr t p f =>
    have e := hev p (by simp [ho, Op.operands])
    refine ⟨[], by simp, ?_⟩
    simp only [opK, ho, hd, e, St.kill]
    repeat' (first | rfl | (simp only [Option.bind_some, get_put_self]; done) | split)
  | indexAddr t x ix =>
    have e1 := hev x (by simp [ho, Op.operands])
    have e2 := hev ix (by simp [ho, Op.operands])
    refine ⟨[], by simp, ?_⟩
    simp only [opK, ho, hd, e1, e2, St.kill]
    repeat' (first | rfl | (simp only [Option.bind_some, get_put_self]; done) | (cases idxOk _ _ <;> simp only [cond_true, cond_false, Option.bind_none]) | split)
  | index t x ix =>
    have e1 := hev x (by simp [ho, Op.operands])
    have e2 := hev ix (by simp [ho, Op.operands])
    refine ⟨[], by simp, ?_⟩
    simp only [opK, ho, hd, e1, e2, St.kill]
    repeat' (first | rfl | (simp only [Option.bind_some, get_put_self]; done) | (cases idxOk _ _ <;> simp only [cond_true, cond_false, Option.bind_none]) | split)
  | extract t ix =>
    have e := hev t (by simp [ho, Op.operands])
    refine ⟨[], by simp, ?_⟩
    simp only [opK, ho, hd, e, St.kill]
    repeat' (first | rfl | (simp only [Option.bind_some, get_put_self]; done) | split)
  | nilCheck x =>
    have e := hev x (by simp [ho, Op.operands])
    refine ⟨[], by simp, ?_⟩
    simp only [opK, ho, hd, e, St.kill]
    repeat' (first | rfl | (simp only [Option.bind_some, get_put_self]; done) | split)
  | slice t x lo hi mx =>
    have e := hev x (by simp [ho, Op.operands])
    have h1 : optInt τ lo = optInt σ lo := optInt_congr fun y hy => hev y (by simp [ho, hy, Op.operands])
    have h2 : optInt τ hi = optInt σ hi := optInt_congr fun y hy => hev y (by simp [ho, hy, Op.operands])
    have h3 : optInt τ mx = optInt σ mx := optInt_congr fun y hy => hev y (by simp [ho, hy, Op.operands])
    simp only [okV, ho, Bool.and_eq_true, Bool.not_eq_true'] at hv
    have hne : ∀ e t xs n, σ.ev x ≠ .sv (.one (.slice e t xs (.own n))) := fun e t xs n h => by simp [h] at hv
    refine ⟨[], by simp, ?_⟩
    simp only [opK, ho, hd, e, St.kill, hv.1, cond_false]
    split
    · exact sliceK_val h1 h2 h3 hne d
    · rfl
  | call c =>
    cases hc : c.callee with
    | builtin b =>
      have hev' : ∀ x ∈ c.args.toList, τ.ev x = σ.ev x := fun x hx => hev x (by simp only [ho, Op.operands, Call.operands, hc]; simpa using hx)
      cases b with
      | len =>
        refine ⟨[], by simp, ?_⟩
        simp only [opK, ho, hd, hc, St.kill]
        split
        · rename_i x ty hargs htys
          rw [hev' x (by rw [hargs]; exact List.mem_cons_self ..)]
          repeat' (first | rfl | (simp only [Option.bind_some, get_put_self]; done) | split)
        · rfl
      | cap =>
        refine ⟨[], by simp, ?_⟩
        simp only [opK, ho, hd, hc, St.kill]
        split
        · rename_i x ty hargs htys
          rw [hev' x (by rw [hargs]; exact List.mem_cons_self ..)]
          repeat' (first | rfl | (simp only [Option.bind_some, get_put_self]; done) | split)
        · rfl
      | max =>
        refine ⟨[], by simp, ?_⟩
        simp only [opK, ho, hd, hc, St.kill]
        split
        · rename_i x y hargs
          rw [hev' x (by rw [hargs]; simp), hev' y (by rw [hargs]; simp)]
          repeat' (first | rfl | (simp only [Option.bind_some, get_put_self]; done) | split)
        · rfl
      | min =>
        refine ⟨[], by simp, ?_⟩
        simp only [opK, ho, hd, hc, St.kill]
        split
        · rename_i x y hargs
          rw [hev' x (by rw [hargs]; simp), hev' y (by rw [hargs]; simp)]
          repeat' (first | rfl | (simp only [Option.bind_some, get_put_self]; done) | split)
        · rfl
      | append =>
        simp only [okV, ho, hc] at hv
        split at hv
        · rename_i s x ty ty' hargs htys
          simp only [Bool.and_eq_true, decide_eq_true_eq] at hv
          obtain ⟨rfl, hv⟩ := hv
          have es := hev' s (by rw [hargs]; simp)
          have ex := hev' x (by rw [hargs]; simp)
          split at hv
          · rename_i e u xs hs
            refine ⟨[], by simp, ?_⟩
            simp only [opK, ho, hd, hc, hargs, htys, if_true, es, ex, hs]
            exact appendK_val d [] (.inl ⟨rfl, rfl⟩)
          · rename_i e u xs hs
            refine ⟨[tagOf d 0 0], fun n hn => by rw [List.mem_singleton.1 hn]; unfold tagOf; omega, ?_⟩
            simp only [opK, ho, hd, hc, hargs, htys, if_true, es, ex, hs]
            exact appendK_val d [tagOf d 0 0] (.inr ⟨rfl, rfl⟩)
          · cases hv
        · cases hv
      | _ => simp [okV, ho, hc] at hv
    | value f =>
      have ef := hev f (by simp [ho, Op.operands, Call.operands, hc])
      have hmem : ∀ x ∈ c.args.toList, x ∈ o.op.operands.toList := fun x hx => by simp only [ho, Op.operands, Call.operands, hc]; simp; exact .inr (by simpa using hx)
      have hev' : ∀ x ∈ c.args.toList, τ.ev x = σ.ev x := fun x hx => hev x (hmem x hx)
      have eargs := evSVs_congr hev'
      simp only [okV, ho, hc] at hv
      split at hv
      · rename_i g caps args hf hargs
        have hbs : ∀ s ∈ typedSVs E c.argTypes.toList args ++ caps.map capSV, ∀ q ∈ s.refs, getB τ.b q = getB σ.b q := fun s hs q hq => by
          rcases List.mem_append.1 hs with hs | hs
          · obtain ⟨s', h1, h2⟩ := typedSVs_refs s hs q hq
            obtain ⟨x, hx, hqx⟩ := evSVs_refs hargs s' h1 q h2
            exact hb x (hmem x hx) q hqx
          · obtain ⟨c', _, rfl⟩ := List.mem_map.1 hs
            exact (capSV_refs c' q hq).elim
        split at hv
        · rename_i H hH
          split at hv
          · rename_i hsrc hrl
            refine ⟨ownNames d 0 (E.sig g).res, fun n hn => Nat.eq_of_beq_eq_true (List.all_eq_true.1 hv n hn), ?_⟩
            simp only [opK, ho, hd, hc, ef, eargs, hf, hargs, callK, packAll_congr hbs, handed_congr hbs, hH]
            cases (E.sig g).io with
            | true => rfl
            | false =>
              simp only [cond_false]
              split
              · rename_i x H' hp hH'
                cases hH'
                split
                · cases ((E.sig g).res.all Kd.isFlat || H.pm.isEmpty) with
                  | false => rfl
                  | true =>
                    simp only [cond_true, hsrc, hrl, St.kill, St.release, Option.bind_assoc]
                    congr 1
                    funext r
                    simp only [Option.bind_some, get_put_self]
                · rfl
              · rfl
          · cases hv
        · cases hv
      · rename_i q args hf hargs
        refine ⟨[], by simp, ?_⟩
        simp only [opK, ho, hd, hc, ef, eargs, hf, hargs, St.kill]
        split
        · split
          · split
            · rw [Option.bind_assoc]
              congr 1
              funext r
              simp only [Option.bind_some, get_put_self]
            · rfl
          · rfl
        · rfl
      · cases hv
    | invoke r n => simp [okV, ho, hc] at hv
  | _ => simp [okV, ho] at hv

end
end Go.Sv
