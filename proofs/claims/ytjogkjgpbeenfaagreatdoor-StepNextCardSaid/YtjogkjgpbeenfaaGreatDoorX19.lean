/- step.Put: its contract. -/
import Derived.Test.YtjogkjgpbeenfaaGreatDoorX18
namespace Go.Proofs.YtjogkjgpbeenfaaGreatDoor.Sv
open Go Go.Sv Go.Proofs Go.Rd Go.RowKit
set_option linter.unusedVariables false
set_option linter.unusedSimpArgs false
set_option maxRecDepth 100000
theorem sz_len [Dfr] (l : List Nd) : sz l ≤ l.length := by
  unfold sz
  cases h : P l with
  | none => simp
  | some q =>
    obtain ⟨t, r⟩ := q
    have e := (P_iff.1 h).2
    rw [e, List.length_append, T.len_row]
    simp
/-- A tree laid in another one's place. -/
def putR (l : List Nd) (k : Int) (x : List Nd) : List Nd :=
  if 0 ≤ k ∧ k < (l.length : Int) ∧ 0 < sz (l.drop k.toNat) then l.take k.toNat ++ x ++ l.drop (k.toNat + sz (l.drop k.toNat)) else l
def put_spec (l : List Nd) (k : Int) (x : List Nd) : Option (List Nd) := if l.length ≤ 1000000 ∧ x.length ≤ 1000000 then some (putR l k x) else none
/-- What is proved of 'Put' by hand. -/
class HasPut [Dfr] : Prop where
  put : ∀ l k x, step_Put_spec l k x = put_spec l k x
theorem put_calls [Dfr] [DfrOK] (w : World) (F : Nat → Prop) (l x : List Nd) (k : Int) (s0 s2 : Option Addr) (c0 c2 : Nat) (hF : ∀ b, F b → b < w.heap.size) (hg : GlobOK E F w)
    (hl : Cl F w (.slice 36 NdY) l [.slice s0 l.length c0]) (hx : Cl F w (.slice 36 NdY) x [.slice s2 x.length c2]) (hll : l.length ≤ 1000000) (hxl : x.length ≤ 1000000) :
    Calls Tryz.prog 23 #[.slice s0 l.length c0, .int .i64 k, .slice s2 x.length c2] w (PutEnd F w (putR l k x)) := by
  unfold putR
  by_cases h0 : k < 0
  · rw [if_neg (by omega)]
    exact put_walk_lo w F l s0 s2 c0 c2 x.length k hl h0 hll
  · obtain ⟨j, rfl⟩ := Int.eq_ofNat_of_zero_le (a := k) (by omega)
    by_cases h1 : j < l.length
    · have hd : (l.drop j).length ≤ 1000000 := by rw [List.length_drop]; omega
      have hsz := row_Size_s (l.drop j) (by omega)
      have hle := sz_len (l.drop j)
      rw [List.length_drop] at hle
      by_cases h2 : 0 < sz (l.drop j)
      · rw [if_pos ⟨by omega, by omega, by simpa using h2⟩]
        exact put_walk_c w F l x s0 s2 c0 c2 j (sz (l.drop j)) hF hg hl hx h1 hsz h2 (by omega) hll hxl
      · rw [if_neg (fun h => h2 (by simpa using h.2.2))]
        have : sz (l.drop j) = 0 := by omega
        rw [this] at hsz
        exact put_walk_no w F l s0 s2 c0 c2 x.length j hF hg hl h1 hsz hll
    · rw [if_neg (by omega)]
      exact put_walk_hi w F l s0 s2 c0 c2 x.length (j : Int) hl (by omega) hll
theorem put_contract [Dfr] [DfrOK] (l : List Nd) (k : Int) (x : List Nd) (r : List Nd) (h : put_spec l k x = some r) : Contract Tryz.prog E 23 (l, k, x) r := by
  unfold put_spec at h
  split at h
  · rename_i hc
    obtain ⟨hll, hxl⟩ := hc
    cases h
    intro w F0 G A vs hA
    obtain ⟨v0, v1, v2, rfl, h0, h1, h2⟩ : ∃ v0 v1 v2, vs = [v0, v1, v2] ∧ Cl (A.F F0) w (.slice 36 NdY) l [v0] ∧ v1 = .int .i64 k ∧ Cl (A.F F0) w (.slice 36 NdY) x [v2] := by
      have hr := hA.rel
      cases hr with
      | cons a hr => cases hr with
        | cons b hr => cases hr with
          | cons c hr => cases hr; exact ⟨_, _, _, rfl, a, b, c⟩
    subst h1
    have shape : ∀ {y : List Nd} {v : Value}, Cl (A.F F0) w (.slice 36 NdY) y [v] → ∃ s c, v = .slice s y.length c := fun h => by
      rw [Cl] at h
      obtain ⟨a, c, e, _⟩ := h
      exact ⟨a, c, (List.cons.inj e).1⟩
    obtain ⟨s0, c0, rfl⟩ := shape h0
    obtain ⟨s2, c2, rfl⟩ := shape h2
    have hF : ∀ b, A.F F0 b → b < w.heap.size := fun b hb => by
      rcases hb with hb | ⟨d, hb⟩ | ⟨n, l, hb⟩
      · exact (hA.f0 b hb).1
      · rw [hA.bx] at hb; cases hb
      · exact (hA.tgm n b l hb).2
    refine (put_calls w (A.F F0) l x k s0 s2 c0 c2 hF hA.glob h0 h2 hll hxl).mono ?_
    rintro e w' ⟨g, cur, rfl, hk, hg, hh, hE⟩
    have hgl : g < w'.heap.size := (Array.getElem?_eq_some_iff.1 hh).1
    refine ⟨_, rfl, ⟨hk.os, hk.tape, hk.output, hk.size, fun b hb _ => hk.block b hb (fun h => h), hk.drawn⟩, fun d => ⟨⟨fun _ => none, fun n => if n = tagOf d 0 0 then some (g, (putR l k x).length) else none⟩, ?_, fun _ => rfl, fun n b l h => ?_, fun n n' b l l' h h' => ?_⟩⟩
    · have S : Step (A.F F0) (Fr.F ⟨fun _ => none, fun n => if n = tagOf d 0 0 then some (g, (putR l k x).length) else none⟩ F0) w w' := by
        refine ⟨fun b hb hlt => hk.block b hlt (fun h => h), fun b hb => ?_⟩
        rcases hb with hb | ⟨d', hb⟩ | ⟨n, l', hb⟩
        · exact .inl (.inl hb)
        · cases hb
        · simp only at hb
          split at hb
          · cases hb; exact .inr hg
          · cases hb
      have hlen := hE.len
      refine .inr ⟨g, (putR l k x).length, if_pos rfl, rfl, (putR l k x).length, cur, rfl, hh, Nat.le_refl _, ?_, by rw [← Array.length_toList]; exact hlen, fun i y hy => ?_⟩
      · have : (putR l k x).length ≤ 3000000 := by
          unfold putR
          split
          · rw [List.length_append, List.length_append, List.length_take, List.length_drop]; omega
          · omega
        unfold maxLen; omega
      · obtain ⟨ds, hd, hj⟩ := hE.el i y hy
        refine ⟨ds, hd.step S, fun j u hu => ?_⟩
        have := hj j u hu
        rwa [Array.getElem?_toList] at this
    · simp only at h
      split at h
      · cases h; exact ⟨.inl hg, hgl⟩
      · cases h
    · simp only at h h'
      split at h
      · split at h'
        · rename_i e1 e2; rw [e1, e2]
        · cases h'
      · cases h
  · cases h
end Go.Proofs.YtjogkjgpbeenfaaGreatDoor.Sv
