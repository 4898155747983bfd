/- plot.Over's contract, whole. -/
import Derived.Test.YtjogkjgpbeenfaaGreatDoorX12
import Derived.Test.YtjogkjgpbeenfaaGreatDoorW03r
namespace Go.Proofs.YtjogkjgpbeenfaaGreatDoor.Sv
open Go Go.Sv Go.Proofs Go.Rd Go.RowKit Go.Shelf
set_option linter.unusedVariables false
set_option linter.unusedSimpArgs false
set_option maxRecDepth 100000
def qlx (l : List Nd) (i : Nat) : Nat := (arI (l.getD i default).1).toNat
theorem qms [Dfr] (l : List Nd) : ∀ (t : T) (i : Nat) (r : List Nd), t.ok → l.drop i = t.row ++ r → t.yjc (qlx l) i ∧ ∀ j, i ≤ j → j < i + t.size → qlx l j ≤ 2 ∧ arI (l.getD j default).1 = (qlx l j : Int)
  | .n0 n, i, r, h, e => by
    have h0 : l.getD i default = n := by
      have : l[i]? = some n := by rw [← List.head?_drop, e]; rfl
      rw [List.getD_eq_getElem?_getD, this]; rfl
    have ha : arI n.1 = 0 := by unfold arI; rw [show ar n.1 = some 0 from h]; rfl
    have h1 : qlx l i = 0 := by unfold qlx; rw [h0, ha]; rfl
    refine ⟨h1, fun j h2 h3 => ?_⟩
    simp only [T.size] at h3
    have : j = i := by omega
    subst this
    rw [h1, h0, ha]; exact ⟨by omega, rfl⟩
  | .n1 n a, i, r, h, e => by
    have h0 : l.getD i default = n := by
      have : l[i]? = some n := by rw [← List.head?_drop, e]; rfl
      rw [List.getD_eq_getElem?_getD, this]; rfl
    have ha : arI n.1 = 1 := by unfold arI; rw [show ar n.1 = some 1 from h.1]; rfl
    have h1 : qlx l i = 1 := by unfold qlx; rw [h0, ha]; rfl
    obtain ⟨i1, i2⟩ := qms l a (i + 1) r h.2 (by rw [← List.drop_drop, e]; rfl)
    refine ⟨⟨h1, i1⟩, fun j h2 h3 => ?_⟩
    simp only [T.size] at h3
    by_cases hj : j = i
    · subst hj; rw [h1, h0, ha]; exact ⟨by omega, rfl⟩
    · exact i2 j (by omega) (by omega)
  | .n2 n a b, i, r, h, e => by
    have h0 : l.getD i default = n := by
      have : l[i]? = some n := by rw [← List.head?_drop, e]; rfl
      rw [List.getD_eq_getElem?_getD, this]; rfl
    have ha : arI n.1 = 2 := by unfold arI; rw [show ar n.1 = some 2 from h.1]; rfl
    have h1 : qlx l i = 2 := by unfold qlx; rw [h0, ha]; rfl
    have e1 : l.drop (i + 1) = a.row ++ (b.row ++ r) := by rw [← List.drop_drop, e]; simp [T.row]
    have e2 : l.drop (i + 1 + a.size) = b.row ++ r := by rw [← List.drop_drop, e1, ← T.zac a, List.drop_left]
    obtain ⟨i1, i2⟩ := qms l a (i + 1) _ h.2.1 e1
    obtain ⟨i3, i4⟩ := qms l b (i + 1 + a.size) r h.2.2 e2
    refine ⟨⟨h1, i1, i3⟩, fun j h2 h3 => ?_⟩
    simp only [T.size] at h3
    by_cases hj : j = i
    · subst hj; rw [h1, h0, ha]; exact ⟨by omega, rfl⟩
    · by_cases hj2 : j < i + 1 + a.size
      · exact i2 j (by omega) hj2
      · exact i4 j (by omega) (by omega)
theorem yhz [Dfr] (l : List Nd) (t : T) (ht : tree l = some t) (hl : l.length ≤ 1000000) : qgu l = some true := by
  obtain ⟨htok, hrow⟩ := zni.1 ht
  have hp := T.qag t
  have hlen : l.length = t.size := by rw [hrow, T.zac]
  have hP : P l = some (t, []) := by rw [hrow]; exact qrb htok
  have hsz : sz l = t.size := by unfold sz; rw [hP]
  rw [ydh, zwn l (by omega), hsz, decide_eq_true (show (l.length : Int) > 0 by omega), hlen]
  simp
theorem qwo [Dfr] [zqy] (l : List Nd) (k : Int) (r : List Int) (h : qat l k = some r) : zff Tryz.prog E 65 (l, k) r := by
  unfold qat at h
  split at h
  · rename_i t ht
    split at h
    · rename_i hc
      obtain ⟨hl, hk0, hk1⟩ := hc
      cases h
      obtain ⟨htok, hrow⟩ := zni.1 ht
      have hlen : l.length = t.size := by rw [hrow, T.zac]
      obtain ⟨ho1, ho2⟩ := qms l t 0 [] htok (by rw [List.drop_zero, List.append_nil]; exact hrow)
      intro w F0 G A vs hA
      obtain ⟨v0, v1, rfl, h0, h1⟩ : ∃ v0 v1, vs = [v0, v1] ∧ Cl (A.F F0) w (.slice 36 NdT) l [v0] ∧ v1 = .int .i64 k := by
        have hr := hA.rel
        cases hr with
        | cons a hr => cases hr with
          | cons b hr => cases hr; exact ⟨_, _, rfl, a, b⟩
      subst h1
      obtain ⟨s, cap, rfl⟩ : ∃ s cap, v0 = .slice s l.length cap := by
        have h0 := h0
        rw [Cl] at h0
        obtain ⟨a, c, e, _⟩ := h0
        exact ⟨a, c, (List.cons.inj e).1⟩
      have hin : yyl w l s l.length cap := fun W hW => by
        have S : Step (A.F F0) (fun _ => False) w W := ⟨fun b _ hb => hW.block b hb (by omega), fun b hb => hb.elim⟩
        exact ⟨hA.glob.step S, Cl.step S h0⟩
      have hone := yhz l t ht hl
      have hit := ywu (qlx l) s l.length cap w hin hone rfl hl (fun i hi => by
        rw [zot]
        have := (ho2 i (Nat.zero_le _) (by omega)).2
        rw [List.getD_eq_getElem?_getD, List.getElem?_eq_getElem hi, Option.getD_some] at this
        rw [this]) (fun i hi => (ho2 i (Nat.zero_le _) (by omega)).1)
      obtain ⟨q, rfl⟩ := Int.eq_ofNat_of_zero_le hk0
      have hov := ymd l.length (fun k => topO (stkS (qlx l) k)) t.ovr (fun i hi => by
        rw [T.yug (qlx l) t ho1 i (by omega)]
        exact T.yvm t i (by omega)) hl s l.length cap w hit q (by omega)
      rw [callsIn_wide] at hov
      refine hov.mono ?_
      rintro e w' ⟨v, m, rfl, hv, hkept⟩
      have hsz := hkept.size
      refine ⟨v, rfl, hkept.weak fun _ _ h => h.elim, fun d => ?_⟩
      have hm : m = ((t.ovr ((q : Nat) : Int).toNat).map fun (i : Nat) => (i : Int)).length := by
        have := hv.1
        rw [List.length_map] at this
        rw [List.length_map, Int.toNat_natCast]; omega
      rcases hv.2 with ⟨rfl, h0⟩ | ⟨g, cp, cur, rfl, hg, hh, hc, hm2, hcs, htk⟩
      · have hnil : ((t.ovr ((q : Nat) : Int).toNat).map fun (i : Nat) => (i : Int)) = [] := List.eq_nil_of_length_eq_zero (by omega)
        refine ⟨⟨fun _ => none, fun _ => none⟩, ?_, fun _ => rfl, fun n b l h => (by cases h), fun n n' b l l' h => (by cases h)⟩
        exact .inl ⟨rfl, hnil, none, rfl⟩
      · refine ⟨⟨fun _ => none, fun n => if n = zcp d 0 0 then some (g, m) else none⟩, ?_, fun _ => rfl, fun n b l h => ?_, fun n n' b l l' h h' => ?_⟩
        · refine .inr ⟨g, m, if_pos rfl, hm, cp, cur, by rw [← hm], hh, by rw [← hm]; exact hc, hm2, hcs, fun i x hx => ?_⟩
          refine ⟨[.int .i64 x], by rw [Cl], fun j u hu => ?_⟩
          rw [List.getElem?_map] at hx
          obtain ⟨n, hn, rfl⟩ := Option.map_eq_some_iff.1 hx
          have h2 : (List.take (m * 1) cur.toList)[i]? = some (.int .i64 (n : Int)) := by
            rw [htk, List.getElem?_map]
            rw [Int.toNat_natCast] at hn
            rw [hn]; rfl
          rw [List.getElem?_take] at h2
          split at h2
          · match j, hu with
            | 0, hu =>
              cases hu
              rw [Array.getElem?_toList] at h2
              simpa [Ty.sz] using h2
          · cases h2
        · simp only at h
          split at h
          · cases h; exact ⟨.inl hg, (Array.getElem?_eq_some_iff.1 hh).1⟩
          · cases h
        · simp only at h h'
          split at h
          · split at h'
            · rename_i e1 e2; rw [e1, e2]
            · cases h'
          · cases h
    · cases h
  · cases h
end Go.Proofs.YtjogkjgpbeenfaaGreatDoor.Sv
