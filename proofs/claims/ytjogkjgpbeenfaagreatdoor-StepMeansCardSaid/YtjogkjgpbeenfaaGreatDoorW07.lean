/- What the functions of package mean compute: in plain words. -/
import Derived.Test.YtjogkjgpbeenfaaGreatDoorM9
import Derived.Test.YtjogkjgpbeenfaaGreatDoorW02
import Derived.Test.YtjogkjgpbeenfaaGreatDoorM3
namespace Go.Proofs.YtjogkjgpbeenfaaGreatDoor.Sv
open Go Go.Sv Go.Rd
set_option linter.unusedVariables false
set_option linter.unusedSimpArgs false
/-! ### something of each of one row and each of another one -/
theorem zci [Dfr] (B : List Tc) (fv : FnV) (g : Tc → Tc → List Tc) (a : Tc) (A : List Tc) (n i : Int) (hB : B.length ≤ 1000000000)
    (hg : ∀ b ∈ B, dyn E fv [.agg [.slice 9 .str a.1 .no, .int .i64 a.2], .agg [.slice 9 .str b.1 .no, .int .i64 b.2]] (.slice 66 (.pair (.slice 9 .str) (.int .i64))) = some (g a b)) : ∀ (r : List Tc) (j : Nat) (acc : List Tc), B.drop j = r → acc.length + (r.flatMap (g a)).length ≤ 1000000000 →
    zah B fv acc a A n i B (B.length : Int) (j : Int) = some (0, (B, fv, acc ++ r.flatMap (g a), A, n, i))
  | [], j, acc, h, hl => by
    obtain ⟨h1, h2⟩ := drop_nil h
    rw [zcb]
    simp only [h2, cond_false, List.flatMap_nil, List.append_nil]
  | b :: r, j, acc, h, hl => by
    obtain ⟨h1, h2, h3, h4, h5, h6⟩ := zad h
    have hm : b ∈ B := List.mem_of_mem_drop (by rw [h]; exact List.mem_cons_self ..)
    simp only [List.flatMap_cons, List.length_append] at hl
    rw [zcb]
    simp only [h2, h3, h4, cond_true, hg b hm, Option.bind_some, room (show (acc.length + (g a b).length) * 32 ≤ 140737488355328 by omega), zcf (show j < 9223372036854775807 by omega)]
    rw [zci B fv g a A n i hB hg r (j + 1) (acc ++ g a b) h5 (by rw [List.length_append]; omega)]
    simp only [List.flatMap_cons, List.append_assoc]
theorem zcj [Dfr] (B : List Tc) (fv : FnV) (g : Tc → Tc → List Tc) (A : List Tc) (hA : A.length ≤ 1000000000) (hB : B.length ≤ 1000000000)
    (hg : ∀ a ∈ A, ∀ b ∈ B, dyn E fv [.agg [.slice 9 .str a.1 .no, .int .i64 a.2], .agg [.slice 9 .str b.1 .no, .int .i64 b.2]] (.slice 66 (.pair (.slice 9 .str) (.int .i64))) = some (g a b)) : ∀ (r : List Tc) (i : Nat) (acc : List Tc), A.drop i = r → acc.length + (zeh r B g).length ≤ 1000000000 →
    zai B fv acc A (A.length : Int) (i : Int) = some (0, acc ++ zeh r B g)
  | [], i, acc, h, hl => by
    obtain ⟨h1, h2⟩ := drop_nil h
    rw [zcc]
    simp only [h2, cond_false, zeh, List.flatMap_nil, List.append_nil]
  | a :: r, i, acc, h, hl => by
    obtain ⟨h1, h2, h3, h4, h5, h6⟩ := zad h
    have hm : a ∈ A := List.mem_of_mem_drop (by rw [h]; exact List.mem_cons_self ..)
    have hc : zeh (a :: r) B g = B.flatMap (g a) ++ zeh r B g := rfl
    rw [hc, List.length_append] at hl
    have e := zci B fv g a A (A.length : Int) (i : Int) hB (hg a hm) B 0 acc rfl (by omega)
    rw [Int.natCast_zero] at e
    rw [zcc]
    simp only [h2, h3, h4, cond_true, e, Option.bind_some, zcf (show i < 9223372036854775807 by omega)]
    rw [zcj B fv g A hA hB hg r (i + 1) (acc ++ B.flatMap (g a)) h5 (by rw [List.length_append]; omega), hc, List.append_assoc]
theorem zbe [Dfr] (A : List Tc) (B : List Tc) (fv : FnV) (g : Tc → Tc → List Tc) (hA : A.length ≤ 1000000000) (hB : B.length ≤ 1000000000) (hl : (zeh A B g).length ≤ 1000000000)
    (hg : ∀ a ∈ A, ∀ b ∈ B, dyn E fv [.agg [.slice 9 .str a.1 .no, .int .i64 a.2], .agg [.slice 9 .str b.1 .no, .int .i64 b.2]] (.slice 66 (.pair (.slice 9 .str) (.int .i64))) = some (g a b)) : zae A B fv = some (zeh A B g) := by
  have e := zcj B fv g A hA hB hg A 0 [] rfl (by simpa using hl)
  rw [Int.natCast_zero] at e
  rw [zgo, e]
  rfl
theorem zcx [Dfr] (B : List Tc) (fv : FnV) (g : Tc → Tc → List Qc) (a : Tc) (A : List Tc) (n i : Int) (hB : B.length ≤ 1000000000)
    (hg : ∀ b ∈ B, dyn E fv [.agg [.slice 9 .str a.1 .no, .int .i64 a.2], .agg [.slice 9 .str b.1 .no, .int .i64 b.2]] (.slice 94 (.pair (.pair (.slice 9 .str) (.int .i64)) (.pair (.slice 9 .str) (.int .i64)))) = some (g a b)) : ∀ (r : List Tc) (j : Nat) (acc : List Qc), B.drop j = r → acc.length + (r.flatMap (g a)).length ≤ 1000000000 →
    zak B fv acc a A n i B (B.length : Int) (j : Int) = some (0, (B, fv, acc ++ r.flatMap (g a), A, n, i))
  | [], j, acc, h, hl => by
    obtain ⟨h1, h2⟩ := drop_nil h
    rw [zck]
    simp only [h2, cond_false, List.flatMap_nil, List.append_nil]
  | b :: r, j, acc, h, hl => by
    obtain ⟨h1, h2, h3, h4, h5, h6⟩ := zad h
    have hm : b ∈ B := List.mem_of_mem_drop (by rw [h]; exact List.mem_cons_self ..)
    simp only [List.flatMap_cons, List.length_append] at hl
    rw [zck]
    simp only [h2, h3, h4, cond_true, hg b hm, Option.bind_some, room (show (acc.length + (g a b).length) * 64 ≤ 140737488355328 by omega), zcf (show j < 9223372036854775807 by omega)]
    rw [zcx B fv g a A n i hB hg r (j + 1) (acc ++ g a b) h5 (by rw [List.length_append]; omega)]
    simp only [List.flatMap_cons, List.append_assoc]
theorem zcy [Dfr] (B : List Tc) (fv : FnV) (g : Tc → Tc → List Qc) (A : List Tc) (hA : A.length ≤ 1000000000) (hB : B.length ≤ 1000000000)
    (hg : ∀ a ∈ A, ∀ b ∈ B, dyn E fv [.agg [.slice 9 .str a.1 .no, .int .i64 a.2], .agg [.slice 9 .str b.1 .no, .int .i64 b.2]] (.slice 94 (.pair (.pair (.slice 9 .str) (.int .i64)) (.pair (.slice 9 .str) (.int .i64)))) = some (g a b)) : ∀ (r : List Tc) (i : Nat) (acc : List Qc), A.drop i = r → acc.length + (zeh r B g).length ≤ 1000000000 →
    zal B fv acc A (A.length : Int) (i : Int) = some (0, acc ++ zeh r B g)
  | [], i, acc, h, hl => by
    obtain ⟨h1, h2⟩ := drop_nil h
    rw [zcl]
    simp only [h2, cond_false, zeh, List.flatMap_nil, List.append_nil]
  | a :: r, i, acc, h, hl => by
    obtain ⟨h1, h2, h3, h4, h5, h6⟩ := zad h
    have hm : a ∈ A := List.mem_of_mem_drop (by rw [h]; exact List.mem_cons_self ..)
    have hc : zeh (a :: r) B g = B.flatMap (g a) ++ zeh r B g := rfl
    rw [hc, List.length_append] at hl
    have e := zcx B fv g a A (A.length : Int) (i : Int) hB (hg a hm) B 0 acc rfl (by omega)
    rw [Int.natCast_zero] at e
    rw [zcl]
    simp only [h2, h3, h4, cond_true, e, Option.bind_some, zcf (show i < 9223372036854775807 by omega)]
    rw [zcy B fv g A hA hB hg r (i + 1) (acc ++ B.flatMap (g a)) h5 (by rw [List.length_append]; omega), hc, List.append_assoc]
theorem zdp [Dfr] (A : List Tc) (B : List Tc) (fv : FnV) (g : Tc → Tc → List Qc) (hA : A.length ≤ 1000000000) (hB : B.length ≤ 1000000000) (hl : (zeh A B g).length ≤ 1000000000)
    (hg : ∀ a ∈ A, ∀ b ∈ B, dyn E fv [.agg [.slice 9 .str a.1 .no, .int .i64 a.2], .agg [.slice 9 .str b.1 .no, .int .i64 b.2]] (.slice 94 (.pair (.pair (.slice 9 .str) (.int .i64)) (.pair (.slice 9 .str) (.int .i64)))) = some (g a b)) : zaq A B fv = some (zeh A B g) := by
  have e := zcy B fv g A hA hB hg A 0 [] rfl (by simpa using hl)
  rw [Int.natCast_zero] at e
  rw [zhd, e]
  rfl
theorem zec [Dfr] (B : List Qc) (fv : FnV) (g : Qc → Qc → List Qc) (a : Qc) (A : List Qc) (n i : Int) (hB : B.length ≤ 1000000000)
    (hg : ∀ b ∈ B, dyn E fv [.agg [.slice 9 .str a.1.1 .no, .int .i64 a.1.2, .slice 9 .str a.2.1 .no, .int .i64 a.2.2], .agg [.slice 9 .str b.1.1 .no, .int .i64 b.1.2, .slice 9 .str b.2.1 .no, .int .i64 b.2.2]] (.slice 94 (.pair (.pair (.slice 9 .str) (.int .i64)) (.pair (.slice 9 .str) (.int .i64)))) = some (g a b)) : ∀ (r : List Qc) (j : Nat) (acc : List Qc), B.drop j = r → acc.length + (r.flatMap (g a)).length ≤ 1000000000 →
    zas B fv acc a A n i B (B.length : Int) (j : Int) = some (0, (B, fv, acc ++ r.flatMap (g a), A, n, i))
  | [], j, acc, h, hl => by
    obtain ⟨h1, h2⟩ := drop_nil h
    rw [zds]
    simp only [h2, cond_false, List.flatMap_nil, List.append_nil]
  | b :: r, j, acc, h, hl => by
    obtain ⟨h1, h2, h3, h4, h5, h6⟩ := zad h
    have hm : b ∈ B := List.mem_of_mem_drop (by rw [h]; exact List.mem_cons_self ..)
    simp only [List.flatMap_cons, List.length_append] at hl
    rw [zds]
    simp only [h2, h3, h4, cond_true, hg b hm, Option.bind_some, room (show (acc.length + (g a b).length) * 64 ≤ 140737488355328 by omega), zcf (show j < 9223372036854775807 by omega)]
    rw [zec B fv g a A n i hB hg r (j + 1) (acc ++ g a b) h5 (by rw [List.length_append]; omega)]
    simp only [List.flatMap_cons, List.append_assoc]
theorem zed [Dfr] (B : List Qc) (fv : FnV) (g : Qc → Qc → List Qc) (A : List Qc) (hA : A.length ≤ 1000000000) (hB : B.length ≤ 1000000000)
    (hg : ∀ a ∈ A, ∀ b ∈ B, dyn E fv [.agg [.slice 9 .str a.1.1 .no, .int .i64 a.1.2, .slice 9 .str a.2.1 .no, .int .i64 a.2.2], .agg [.slice 9 .str b.1.1 .no, .int .i64 b.1.2, .slice 9 .str b.2.1 .no, .int .i64 b.2.2]] (.slice 94 (.pair (.pair (.slice 9 .str) (.int .i64)) (.pair (.slice 9 .str) (.int .i64)))) = some (g a b)) : ∀ (r : List Qc) (i : Nat) (acc : List Qc), A.drop i = r → acc.length + (zeh r B g).length ≤ 1000000000 →
    zat B fv acc A (A.length : Int) (i : Int) = some (0, acc ++ zeh r B g)
  | [], i, acc, h, hl => by
    obtain ⟨h1, h2⟩ := drop_nil h
    rw [zdt]
    simp only [h2, cond_false, zeh, List.flatMap_nil, List.append_nil]
  | a :: r, i, acc, h, hl => by
    obtain ⟨h1, h2, h3, h4, h5, h6⟩ := zad h
    have hm : a ∈ A := List.mem_of_mem_drop (by rw [h]; exact List.mem_cons_self ..)
    have hc : zeh (a :: r) B g = B.flatMap (g a) ++ zeh r B g := rfl
    rw [hc, List.length_append] at hl
    have e := zec B fv g a A (A.length : Int) (i : Int) hB (hg a hm) B 0 acc rfl (by omega)
    rw [Int.natCast_zero] at e
    rw [zdt]
    simp only [h2, h3, h4, cond_true, e, Option.bind_some, zcf (show i < 9223372036854775807 by omega)]
    rw [zed B fv g A hA hB hg r (i + 1) (acc ++ B.flatMap (g a)) h5 (by rw [List.length_append]; omega), hc, List.append_assoc]
theorem zeo [Dfr] (A : List Qc) (B : List Qc) (fv : FnV) (g : Qc → Qc → List Qc) (hA : A.length ≤ 1000000000) (hB : B.length ≤ 1000000000) (hl : (zeh A B g).length ≤ 1000000000)
    (hg : ∀ a ∈ A, ∀ b ∈ B, dyn E fv [.agg [.slice 9 .str a.1.1 .no, .int .i64 a.1.2, .slice 9 .str a.2.1 .no, .int .i64 a.2.2], .agg [.slice 9 .str b.1.1 .no, .int .i64 b.1.2, .slice 9 .str b.2.1 .no, .int .i64 b.2.2]] (.slice 94 (.pair (.pair (.slice 9 .str) (.int .i64)) (.pair (.slice 9 .str) (.int .i64)))) = some (g a b)) : zaw A B fv = some (zeh A B g) := by
  have e := zed B fv g A hA hB hg A 0 [] rfl (by simpa using hl)
  rw [Int.natCast_zero] at e
  rw [zie, e]
  rfl
theorem zdq [Dfr] (B : List Tc) (fv : FnV) (g : Qc → Tc → List Qc) (a : Qc) (A : List Qc) (n i : Int) (hB : B.length ≤ 1000000000)
    (hg : ∀ b ∈ B, dyn E fv [.agg [.slice 9 .str a.1.1 .no, .int .i64 a.1.2, .slice 9 .str a.2.1 .no, .int .i64 a.2.2], .agg [.slice 9 .str b.1 .no, .int .i64 b.2]] (.slice 94 (.pair (.pair (.slice 9 .str) (.int .i64)) (.pair (.slice 9 .str) (.int .i64)))) = some (g a b)) : ∀ (r : List Tc) (j : Nat) (acc : List Qc), B.drop j = r → acc.length + (r.flatMap (g a)).length ≤ 1000000000 →
    zan B fv acc a A n i B (B.length : Int) (j : Int) = some (0, (B, fv, acc ++ r.flatMap (g a), A, n, i))
  | [], j, acc, h, hl => by
    obtain ⟨h1, h2⟩ := drop_nil h
    rw [zcz]
    simp only [h2, cond_false, List.flatMap_nil, List.append_nil]
  | b :: r, j, acc, h, hl => by
    obtain ⟨h1, h2, h3, h4, h5, h6⟩ := zad h
    have hm : b ∈ B := List.mem_of_mem_drop (by rw [h]; exact List.mem_cons_self ..)
    simp only [List.flatMap_cons, List.length_append] at hl
    rw [zcz]
    simp only [h2, h3, h4, cond_true, hg b hm, Option.bind_some, room (show (acc.length + (g a b).length) * 64 ≤ 140737488355328 by omega), zcf (show j < 9223372036854775807 by omega)]
    rw [zdq B fv g a A n i hB hg r (j + 1) (acc ++ g a b) h5 (by rw [List.length_append]; omega)]
    simp only [List.flatMap_cons, List.append_assoc]
theorem zdr [Dfr] (B : List Tc) (fv : FnV) (g : Qc → Tc → List Qc) (A : List Qc) (hA : A.length ≤ 1000000000) (hB : B.length ≤ 1000000000)
    (hg : ∀ a ∈ A, ∀ b ∈ B, dyn E fv [.agg [.slice 9 .str a.1.1 .no, .int .i64 a.1.2, .slice 9 .str a.2.1 .no, .int .i64 a.2.2], .agg [.slice 9 .str b.1 .no, .int .i64 b.2]] (.slice 94 (.pair (.pair (.slice 9 .str) (.int .i64)) (.pair (.slice 9 .str) (.int .i64)))) = some (g a b)) : ∀ (r : List Qc) (i : Nat) (acc : List Qc), A.drop i = r → acc.length + (zeh r B g).length ≤ 1000000000 →
    zao B fv acc A (A.length : Int) (i : Int) = some (0, acc ++ zeh r B g)
  | [], i, acc, h, hl => by
    obtain ⟨h1, h2⟩ := drop_nil h
    rw [zda]
    simp only [h2, cond_false, zeh, List.flatMap_nil, List.append_nil]
  | a :: r, i, acc, h, hl => by
    obtain ⟨h1, h2, h3, h4, h5, h6⟩ := zad h
    have hm : a ∈ A := List.mem_of_mem_drop (by rw [h]; exact List.mem_cons_self ..)
    have hc : zeh (a :: r) B g = B.flatMap (g a) ++ zeh r B g := rfl
    rw [hc, List.length_append] at hl
    have e := zdq B fv g a A (A.length : Int) (i : Int) hB (hg a hm) B 0 acc rfl (by omega)
    rw [Int.natCast_zero] at e
    rw [zda]
    simp only [h2, h3, h4, cond_true, e, Option.bind_some, zcf (show i < 9223372036854775807 by omega)]
    rw [zdr B fv g A hA hB hg r (i + 1) (acc ++ B.flatMap (g a)) h5 (by rw [List.length_append]; omega), hc, List.append_assoc]
theorem zhz [Dfr] (A : List Qc) (B : List Tc) (fv : FnV) (g : Qc → Tc → List Qc) (hA : A.length ≤ 1000000000) (hB : B.length ≤ 1000000000) (hl : (zeh A B g).length ≤ 1000000000)
    (hg : ∀ a ∈ A, ∀ b ∈ B, dyn E fv [.agg [.slice 9 .str a.1.1 .no, .int .i64 a.1.2, .slice 9 .str a.2.1 .no, .int .i64 a.2.2], .agg [.slice 9 .str b.1 .no, .int .i64 b.2]] (.slice 94 (.pair (.pair (.slice 9 .str) (.int .i64)) (.pair (.slice 9 .str) (.int .i64)))) = some (g a b)) : zba A B fv = some (zeh A B g) := by
  have e := zdr B fv g A hA hB hg A 0 [] rfl (by simpa using hl)
  rw [Int.natCast_zero] at e
  rw [zhr, e]
  rfl
/-! ### pairs put in order -/
def ysu (l : List Qc) : Prop := ∀ x ∈ l, x.1.1.length ≤ 4611686018427387904 ∧ x.2.1.length ≤ 4611686018427387904
theorem qkm [Dfr] (x y : Qc) (hx : x.1.1.length ≤ 4611686018427387904 ∧ x.2.1.length ≤ 4611686018427387904) : qiy x y = some (ordN (cmpQ x y)) := by
  rw [qwu, zzs _ _ hx.1, Option.bind_some, zzs _ _ hx.2, Option.bind_some, qec, Option.bind_some]
  show _ = some (ordN (Ordering.then _ _))
  rw [qoy]
theorem yaq [Dfr] (x y : Qc) (hx : x.1.1.length ≤ 4611686018427387904 ∧ x.2.1.length ≤ 4611686018427387904) : qix x y zlm = some (decide (cmpQ x y = .eq)) := by
  have e : dyn E ⟨zlm, []⟩ [.agg [.slice 9 .str x.1.1 .no, .int .i64 x.1.2, .slice 9 .str x.2.1 .no, .int .i64 x.2.2], .agg [.slice 9 .str y.1.1 .no, .int .i64 y.1.2, .slice 9 .str y.2.1 .no, .int .i64 y.2.2]] (.int .i64) = some (ordN (cmpQ x y)) :=
    (qdr x.1.1 x.1.2 x.2.1 x.2.2 y.1.1 y.1.2 y.2.1 y.2.2).trans (qkm x y hx)
  rw [qwt, e, Option.bind_some, qwp]
theorem zoy [Dfr] (l : List Qc) (hl : l.length ≤ 1000000000) (hs : ysu l) : znx l = some (canon cmpQ l) := by
  rw [ydn]
  simp only [Option.bind_fun_some]
  exact qaa (u := .pair (.pair (.slice 9 .str) (.int .i64)) (.pair (.slice 9 .str) (.int .i64))) ordQ (by omega) (fun x hx y hy => (qdr x.1.1 x.1.2 x.2.1 x.2.2 y.1.1 y.1.2 y.2.1 y.2.2).trans (qkm x y (hs x hx)))
    (fun x hx y hy => (qse x.1.1 x.1.2 x.2.1 x.2.2 y.1.1 y.1.2 y.2.1 y.2.2 zlm).trans (yaq x y (hs x hx)))
/-! ### the functions handed over -/
theorem qhc [Dfr] (p q : Tc) (h : p.1.length + q.1.length ≤ 19) : zsx p q = some (behT p q) := by
  rw [qsj, zpk _ _ (by show p.1.length + q.1.length ≤ _; omega)]
  simp [zir, behT]
theorem qsh [Dfr] (p q : Tc) (h : p.1.length + q.1.length ≤ 19) : qba p q = some [zir p q] := by
  rw [qpj, zpk _ _ (by omega)]; rfl
theorem qsg [Dfr] (p q : Tc) (h : p.1.length + q.1.length ≤ 19) : qaz p q = some [qbl p q] := by
  rw [qpi, qhc p q h]
  unfold qbl
  by_cases h2 : p.2 = 2
  · rw [show (p.2 != 2) = false by simp [h2], if_pos h2]; rfl
  · rw [show (p.2 != 2) = true by simpa using h2, if_neg h2]; rfl
theorem qsi [Dfr] (p q : Tc) : qbe p q = some [goF p q] := by
  rw [qpn, zkv]
  unfold goF
  by_cases h2 : p.2 = 1
  · rw [show (p.2 != 1) = false by simp [h2], if_pos h2]; rfl
  · rw [show (p.2 != 1) = true by simpa using h2, if_neg h2]; rfl
theorem qpm [Dfr] (a b : Qc) (h1 : a.1.1.length + b.1.1.length ≤ 19) (h2 : a.2.1.length + b.2.1.length ≤ 19) : zyl a b = some [seqF a b] := by
  rw [qlq, zpk a.1 b.1 (by omega), zpk b.2 a.2 (by omega)]
  unfold seqF
  by_cases h2 : a.1.2 = 1
  · rw [show (a.1.2 != 1) = false by simp [h2], if_pos h2]; rfl
  · rw [show (a.1.2 != 1) = true by simpa using h2, if_neg h2]; rfl
theorem qpk [Dfr] (a : Qc) (c : Tc) (h : a.2.1.length + c.1.length ≤ 19) : zyj a c = some [(a.1, zir a.2 c)] := by
  rw [qlo, zpk a.2 c (by omega)]; rfl
theorem qpl [Dfr] [qcc] (a b : Qc) (h1 : a.1.1.length + b.1.1.length ≤ 19) (h2 : a.2.1.length + b.2.1.length ≤ 19) (h3 : (parF a b).length ≤ 1000000000) : zyk a b = some (parF a b) := by
  have hl : ∀ (e : Int) (p q : List ByteArray), p.length + q.length ≤ 19 → (parE e p q).length ≤ 1000000000 := fun e p q h => by
    have := qdv (a := p) (b := q) h
    unfold parE
    rw [List.length_map]; omega
  rw [qlp, qeg _ _ h1, Option.bind_some, qeg _ _ h2, Option.bind_some]
  have e0 : parF a b = zeh (parE (bs a.1.2 b.1.2) a.1.1 b.1.1) (parE (bs a.2.2 b.2.2) a.2.1 b.2.1) fun p q => [(p, q)] := by
    unfold parF zeh
    congr 1
    funext p
    exact List.map_eq_flatMap
  rw [zdp _ _ _ (fun p q => [(p, q)]) (hl _ _ _ h1) (hl _ _ _ h2) (by rw [← e0]; exact h3)
    (fun p _ q _ => (qes p.1 p.2 q.1 q.2).trans (qhb p q)), e0]
  rfl
theorem qkn [Dfr] (A B : List Tc) (hA : A.length ≤ 1000000000) (hB : B.length ≤ 1000000000) (hl : (zhq A B goF).length ≤ 1000000000) : zwz A B = some (zhq A B goF) := by
  rw [qwv, zdp A B _ (fun p q => [goF p q]) hA hB hl (fun p _ q _ => (qlr p.1 p.2 q.1 q.2).trans (qsi p q))]
  rfl
theorem zph [Dfr] (Q : List Qc) (hQ : Q.length ≤ 1000000000) (hs : ∀ x ∈ Q, x.1.1.length + x.2.1.length ≤ 19) : ∀ (r : List Qc) (i : Nat) (acc : List Tc), Q.drop i = r → acc.length ≤ i → ziv acc Q (Q.length : Int) (i : Int) = some (0, acc ++ r.flatMap blkF)
  | [], i, acc, h, ha => by
    obtain ⟨h1, h2⟩ := drop_nil h
    rw [zzh]
    simp only [h2, cond_false, List.flatMap_nil, List.append_nil]
  | x :: r, i, acc, h, ha => by
    obtain ⟨h1, h2, h3, h4, h5, h6⟩ := zad h
    have hm := hs x (List.mem_of_mem_drop (by rw [h]; exact List.mem_cons_self ..))
    have hw := zcf (show i < 9223372036854775807 by omega)
    rw [zzh]
    simp only [h2, h3, h4, cond_true, qhc x.1 x.2 hm, Option.bind_some, room (show (acc.length + 1) * 32 ≤ 140737488355328 by omega), hw, List.flatMap_cons]
    unfold blkF
    by_cases e1 : x.1.2 = 1
    · rw [show (x.1.2 == 1) = true by simp [e1], if_pos e1, cond_true, zph Q hQ hs r (i + 1) _ h5 (by simp; omega), List.append_assoc]
      rfl
    · rw [show (x.1.2 == 1) = false by simpa using e1, if_neg e1, cond_false]
      by_cases e2 : x.1.2 = 2
      · rw [show (x.1.2 == 2) = true by simp [e2], if_pos e2, cond_true, zph Q hQ hs r (i + 1) _ h5 (by simp; omega), List.append_assoc]
        rfl
      · rw [show (x.1.2 == 2) = false by simpa using e2, if_neg e2, cond_false, zph Q hQ hs r (i + 1) _ h5 (by omega)]
        rfl
theorem qbb [Dfr] (l : List Nd) (hl : 0 < l.length) (C : List Tc) (hC : C.length ≤ 1000000000) : ∀ (r : List Tc) (i : Nat) (acc : List Qc), C.drop i = r → acc.length ≤ i → zmk l acc C (C.length : Int) (i : Int) = some (0, acc ++ r.map fun q => (([], (ix l 0).2.2), q))
  | [], i, acc, h, ha => by
    obtain ⟨h1, h2⟩ := drop_nil h
    rw [zwy]
    simp only [h2, cond_false, List.map_nil, List.append_nil]
  | x :: r, i, acc, h, ha => by
    obtain ⟨h1, h2, h3, h4, h5, h6⟩ := zad h
    rw [zwy]
    simp only [h2, h3, h4, cond_true, zbp hl, zkv, Option.bind_some, room (show (acc.length + 1) * 64 ≤ 140737488355328 by omega), zcf (show i < 9223372036854775807 by omega), List.map_cons]
    rw [qbb l hl C hC r (i + 1) _ h5 (by simp; omega), List.append_assoc]
    rfl
/-! ### what is told of terms -/
theorem znm [Dfr] {m : Tm} (h : m.small) : m.size ≤ 100000 := by have := h.1; omega
theorem zdu [Dfr] {m : Tm} (h : m.small) : ∀ x ∈ m.tr, x.1.length ≤ 6 := fun x hx => Nat.le_trans (Tm.ymu hx) h.2
theorem zdw [Dfr] {m : Tm} (h : m.small) : ∀ x ∈ m.pq, x.1.1.length + x.2.1.length ≤ 6 := fun x hx => Nat.le_trans (Tm.ymw hx) h.2
theorem qfy [Dfr] {m : Tm} (h : m.small) : m.big ≤ 400000000 := Tm.yoi h.1 h.2
theorem zlq [Dfr] {m : Tm} (h : m.small) : m.tr.length ≤ 400000000 ∧ m.pq.length ≤ 400000000 := ⟨Nat.le_trans (Tm.zbk m).1 (qfy h), Nat.le_trans (Tm.zbk m).2 (qfy h)⟩
def fewT (l : List Tc) : Prop := ∀ x ∈ l, x.1.length ≤ 12
theorem fewT.short [Dfr] {l : List Tc} (h : fewT l) : zpq l := fun x hx => by have := h x hx; omega
def fewQ (l : List Qc) : Prop := ∀ x ∈ l, x.1.1.length ≤ 12 ∧ x.2.1.length ≤ 12
theorem fewQ.short [Dfr] {l : List Qc} (h : fewQ l) : ysu l := fun x hx => by have := h x hx; omega
theorem qmk [Dfr] (p q : Tc) : (zir p q).1.length ≤ p.1.length + q.1.length := by
  unfold zir
  split
  · rw [List.length_append]; exact Nat.le_refl _
  · omega
theorem sm2 [Dfr] {a b m : Tm} (h : m.small) (hs : m.size = a.size + b.size + 1) (hn : m.nm = a.nm ++ b.nm) : a.small ∧ b.small := by
  obtain ⟨h1, h2⟩ := h
  rw [hn, List.length_append] at h2
  exact ⟨⟨by omega, by omega⟩, ⟨by omega, by omega⟩⟩
theorem sm1 [Dfr] {a m : Tm} (h : m.small) (hs : m.size = a.size + 1) (hn : m.nm = a.nm) : a.small := by
  obtain ⟨h1, h2⟩ := h
  rw [hn] at h2
  exact ⟨by omega, h2⟩
theorem zku [Dfr] [qcc] : ∀ m : Tm, m.small → (m.po = true → zdi m.row = some m.tr) ∧ (m.qo = true → zgj m.row = some m.pq)
  | .act s, h => ⟨fun _ => by
      have hk := qpv (.act s) rfl (znm h)
      have hx : ix (Tm.act s).row 0 = (1, s, 0) := rfl
      have hi : zaa 0 (Tm.act s).row.length = true := rfl
      have hset := zhh [([s], 1)] (by simp) (fun x hx => by rw [List.mem_singleton.1 hx]; simp)
      rw [zfe, hk]
      simp only [Option.bind_some, hx, hi, cond_true, hset]
      rfl, fun h => by simp [Tm.qo] at h⟩
  | .skip, h => ⟨fun _ => by
      have hk := qpv .skip rfl (znm h)
      have hx : ix Tm.skip.row 0 = nd 2 := rfl
      have hi : zaa 0 Tm.skip.row.length = true := rfl
      have hset := zhh [([], 1)] (by simp) (fun x hx => by rw [List.mem_singleton.1 hx]; simp)
      rw [zfe, hk]
      simp only [Option.bind_some, hx, hi, cond_true, zkv, hset]
      rfl, fun h => by simp [Tm.qo] at h⟩
  | .throw, h => ⟨fun _ => by
      have hk := qpv .throw rfl (znm h)
      have hx : ix Tm.throw.row 0 = nd 3 := rfl
      have hi : zaa 0 Tm.throw.row.length = true := rfl
      have hset := zhh [([], 2)] (by simp) (fun x hx => by rw [List.mem_singleton.1 hx]; simp)
      rw [zfe, hk]
      simp only [Option.bind_some, hx, hi, cond_true, zkv, hset]
      rfl, fun h => by simp [Tm.qo] at h⟩
  | .yield, h => ⟨fun _ => by
      have hk := qpv .yield rfl (znm h)
      have hx : ix Tm.yield.row 0 = nd 4 := rfl
      have hi : zaa 0 Tm.yield.row.length = true := rfl
      have hset := zhh [([], 1), ([], 3)] (by simp) (fun x hx => by simp at hx; rcases hx with h | h <;> rw [h] <;> simp)
      rw [zfe, hk]
      simp only [Option.bind_some, hx, hi, cond_true, zkv, hset]
      rfl, fun h => by simp [Tm.qo] at h⟩
  | .over s, h => ⟨fun _ => by
      have hk := qpv (.over s) rfl (znm h)
      have hx : ix (Tm.over s).row 0 = (11, ByteArray.empty, s) := rfl
      have hi : zaa 0 (Tm.over s).row.length = true := rfl
      have hset := zhh [([], s)] (by simp) (fun x hx => by rw [List.mem_singleton.1 hx]; simp)
      rw [zfe, hk]
      simp only [Option.bind_some, hx, hi, cond_true, zkv, hset]
      rfl, fun h => by simp [Tm.qo] at h⟩
  | .seq a b, h => by
    obtain ⟨ha, hb⟩ := sm2 h (Tm.zcs a b) rfl
    have hk := qev (.seq a b) rfl (znm h)
    have hx : ix (Tm.seq a b).row 0 = nd 5 := rfl
    have hi : zaa 0 (Tm.seq a b).row.length = true := zbp (by rw [Tm.zac]; exact Tm.zes _)
    have i0 : ix [a.row, b.row] 0 = a.row := rfl
    have i1 : ix [a.row, b.row] 1 = b.row := rfl
    have j0 : zaa 0 [a.row, b.row].length = true := rfl
    have j1 : zaa 1 [a.row, b.row].length = true := rfl
    refine ⟨fun ho => ?_, fun ho => ?_⟩
    · simp only [Tm.po, Bool.and_eq_true] at ho
      have ea := (zku a ha).1 ho.1
      have eb := (zku b hb).1 (Tm.zfq ho.2)
      have hl := Tm.zmi (f := zir) (Tm.zbk a).1 (Tm.zbk b).1 (m := .seq a b) rfl (Nat.le_refl _)
      have hbig := qfy h
      have ec := zbe a.tr b.tr ⟨zsw, []⟩ (fun p q => [zir p q]) (by have := (zlq ha).1; omega) (by have := (zlq hb).1; omega) (by unfold zhq at hl; omega)
        (fun p hp q hq => (qln p.1 p.2 q.1 q.2).trans (qsh p q (by have := zdu ha p hp; have := zdu hb q hq; omega)))
      have es := zhh (zhq a.tr b.tr zir) (by omega) (fewT.short fun x hx => by
        obtain ⟨p, hp, q, hq, rfl⟩ := zgv.1 hx
        have := zdu ha p hp; have := zdu hb q hq; have := qmk p q; omega)
      unfold zhq at es
      rw [zfe, hk]
      simp only [Option.bind_some, hx, hi, cond_true, i0, i1, j0, j1, ea, eb, ec, es]
      rfl
    · simp only [Tm.qo, Bool.and_eq_true] at ho
      have ea := (zku a ha).2 ho.1
      have eb := (zku b hb).2 (Tm.zrt ho.2)
      have hl := Tm.zmi (f := seqF) (Tm.zbk a).2 (Tm.zbk b).2 (m := .seq a b) rfl (Nat.le_refl _)
      have hbig := qfy h
      have ec := zeo a.pq b.pq ⟨zqt, []⟩ (fun p q => [seqF p q]) (by have := (zlq ha).2; omega) (by have := (zlq hb).2; omega) (by unfold zhq at hl; omega)
        (fun p hp q hq => (qjb p.1.1 p.1.2 p.2.1 p.2.2 q.1.1 q.1.2 q.2.1 q.2.2).trans (qpm p q (by have := zdw ha p hp; have := zdw hb q hq; omega) (by have := zdw ha p hp; have := zdw hb q hq; omega)))
      have es := zoy (zhq a.pq b.pq seqF) (by omega) (fewQ.short fun x hx => by
        obtain ⟨p, hp, q, hq, rfl⟩ := zgv.1 hx
        have := zdw ha p hp; have := zdw hb q hq
        unfold seqF
        split
        · have := qmk p.1 q.1; have := qmk q.2 p.2
          exact ⟨by show (zir p.1 q.1).1.length ≤ 12; omega, by show (zir q.2 p.2).1.length ≤ 12; omega⟩
        · exact ⟨by omega, by omega⟩)
      unfold zhq at es
      rw [zhk, hk]
      simp only [Option.bind_some, hx, hi, cond_true, i0, i1, j0, j1, ea, eb, ec, es]
      rfl
  | .alt a b, h => by
    obtain ⟨ha, hb⟩ := sm2 h (Tm.qcg a b) rfl
    have hk := qev (.alt a b) rfl (znm h)
    have hx : ix (Tm.alt a b).row 0 = nd 6 := rfl
    have hi : zaa 0 (Tm.alt a b).row.length = true := zbp (by rw [Tm.zac]; exact Tm.zes _)
    have i0 : ix [a.row, b.row] 0 = a.row := rfl
    have i1 : ix [a.row, b.row] 1 = b.row := rfl
    have j0 : zaa 0 [a.row, b.row].length = true := rfl
    have j1 : zaa 1 [a.row, b.row].length = true := rfl
    have la := zlq ha
    have lb := zlq hb
    refine ⟨fun ho => ?_, fun ho => ?_⟩
    · simp only [Tm.po, Bool.and_eq_true] at ho
      have ea := (zku a ha).1 (Tm.zfq ho.1)
      have eb := (zku b hb).1 (Tm.zfq ho.2)
      have ec := zrm [a.tr, b.tr] (by simp only [zct]; omega) (by simp)
      rw [show [a.tr, b.tr].flatten = a.tr ++ b.tr by simp] at ec
      have es := zhh (a.tr ++ b.tr) (by rw [List.length_append]; omega) (fewT.short fun x hx => by
        rcases List.mem_append.1 hx with hx | hx
        · have := zdu ha x hx; omega
        · have := zdu hb x hx; omega)
      rw [zfe, hk]
      simp only [Option.bind_some, hx, hi, cond_true, i0, i1, j0, j1, ea, eb, ec, es]
      rfl
    · simp only [Tm.qo, Bool.and_eq_true] at ho
      have ea := (zku a ha).2 (Tm.zrt ho.1)
      have eb := (zku b hb).2 (Tm.zrt ho.2)
      have ec := zto [a.pq, b.pq] (by simp only [zct]; omega) (by simp)
      rw [show [a.pq, b.pq].flatten = a.pq ++ b.pq by simp] at ec
      have es := zoy (a.pq ++ b.pq) (by rw [List.length_append]; omega) (fewQ.short fun x hx => by
        rcases List.mem_append.1 hx with hx | hx
        · have := zdw ha x hx; omega
        · have := zdw hb x hx; omega)
      rw [zhk, hk]
      simp only [Option.bind_some, hx, hi, cond_true, i0, i1, j0, j1, ea, eb, ec, es]
      rfl
  | .par a b, h => by
    obtain ⟨ha, hb⟩ := sm2 h (Tm.zet a b) rfl
    have hk := qev (.par a b) rfl (znm h)
    have hx : ix (Tm.par a b).row 0 = nd 7 := rfl
    have hi : zaa 0 (Tm.par a b).row.length = true := zbp (by rw [Tm.zac]; exact Tm.zes _)
    have i0 : ix [a.row, b.row] 0 = a.row := rfl
    have i1 : ix [a.row, b.row] 1 = b.row := rfl
    have j0 : zaa 0 [a.row, b.row].length = true := rfl
    have j1 : zaa 1 [a.row, b.row].length = true := rfl
    have hbig := qfy h
    refine ⟨fun ho => ?_, fun ho => ?_⟩
    · simp only [Tm.po, Bool.and_eq_true] at ho
      have ea := (zku a ha).1 ho.1
      have eb := (zku b hb).1 ho.2
      have hl := Tm.yls (Tm.zbk a).1 (Tm.zbk b).1
      have ec := zbe a.tr b.tr ⟨zzr, []⟩ (fun p q => parE (bs p.2 q.2) p.1 q.1) (by have := (zlq ha).1; omega) (by have := (zlq hb).1; omega) (by omega)
        (fun p hp q hq => (quz p.1 p.2 q.1 q.2).trans (qeg p q (by have := zdu ha p hp; have := zdu hb q hq; omega)))
      have es := zhh (zeh a.tr b.tr fun p q => parE (bs p.2 q.2) p.1 q.1) (by omega) (fewT.short fun x hx => by
        obtain ⟨p, hp, q, hq, hx⟩ := zwx.1 hx
        have := (qcr.1 hx).1.len
        have := zdu ha p hp; have := zdu hb q hq; omega)
      rw [zfe, hk]
      simp only [Option.bind_some, hx, hi, cond_true, i0, i1, j0, j1, ea, eb, ec, es]
      rfl
    · simp only [Tm.qo, Bool.and_eq_true] at ho
      have ea := (zku a ha).2 ho.1
      have eb := (zku b hb).2 ho.2
      have hl := Tm.yfy (Tm.zbk a).2 (Tm.zbk b).2
      have ec := zeo a.pq b.pq ⟨zqs, []⟩ parF (by have := (zlq ha).2; omega) (by have := (zlq hb).2; omega) (by omega)
        (fun p hp q hq => (qja p.1.1 p.1.2 p.2.1 p.2.2 q.1.1 q.1.2 q.2.1 q.2.2).trans (qpl p q (by have := zdw ha p hp; have := zdw hb q hq; omega) (by have := zdw ha p hp; have := zdw hb q hq; omega) (by
          have h1 := Tm.ygh p q
          have h2 := ygs (p.1.1.length + p.2.1.length) (q.1.1.length + q.2.1.length)
          have h3 : 2 ^ (p.1.1.length + p.2.1.length + (q.1.1.length + q.2.1.length)) ≤ 2 ^ 12 := Nat.pow_le_pow_right (by omega) (by have := zdw ha p hp; have := zdw hb q hq; omega)
          omega)))
      have es := zoy (zeh a.pq b.pq parF) (by omega) (fewQ.short fun x hx => by
        obtain ⟨p, hp, q, hq, hx⟩ := zwx.1 hx
        obtain ⟨⟨h1, _⟩, h2, _⟩ := Tm.yge.1 hx
        have := h1.len; have := h2.len
        have := zdw ha p hp; have := zdw hb q hq; omega)
      rw [zhk, hk]
      simp only [Option.bind_some, hx, hi, cond_true, i0, i1, j0, j1, ea, eb, ec, es]
      rfl
  | .hand a b, h => by
    obtain ⟨ha, hb⟩ := sm2 h (Tm.zdn a b) rfl
    have hk := qev (.hand a b) rfl (znm h)
    have hx : ix (Tm.hand a b).row 0 = nd 8 := rfl
    have hi : zaa 0 (Tm.hand a b).row.length = true := zbp (by rw [Tm.zac]; exact Tm.zes _)
    have i0 : ix [a.row, b.row] 0 = a.row := rfl
    have i1 : ix [a.row, b.row] 1 = b.row := rfl
    have j0 : zaa 0 [a.row, b.row].length = true := rfl
    have j1 : zaa 1 [a.row, b.row].length = true := rfl
    have hbig := qfy h
    refine ⟨fun ho => ?_, fun ho => by simp [Tm.qo] at ho⟩
    simp only [Tm.po, Bool.and_eq_true] at ho
    have ea := (zku a ha).1 ho.1
    have eb := (zku b hb).1 (Tm.zfq ho.2)
    have hl := Tm.zmi (f := qbl) (Tm.zbk a).1 (Tm.zbk b).1 (m := .hand a b) rfl (Nat.le_refl _)
    have ec := zbe a.tr b.tr ⟨zsv, []⟩ (fun p q => [qbl p q]) (by have := (zlq ha).1; omega) (by have := (zlq hb).1; omega) (by unfold zhq at hl; omega)
      (fun p hp q hq => (qlm p.1 p.2 q.1 q.2).trans (qsg p q (by have := zdu ha p hp; have := zdu hb q hq; omega)))
    have es := zhh (zhq a.tr b.tr qbl) (by omega) (fewT.short fun x hx => by
      obtain ⟨p, hp, q, hq, rfl⟩ := zgv.1 hx
      have := zdu ha p hp; have := zdu hb q hq
      unfold qbl behT
      split
      · simp only [List.length_append]; omega
      · omega)
    unfold zhq at es
    rw [zfe, hk]
    simp only [Option.bind_some, hx, hi, cond_true, i0, i1, j0, j1, ea, eb, ec, es]
    rfl
  | .block a, h => by
    have ha := sm1 h (Tm.zbo a) rfl
    have hk := yii (.block a) rfl (znm h)
    have hx : ix (Tm.block a).row 0 = nd 9 := rfl
    have hi : zaa 0 (Tm.block a).row.length = true := zbp (by rw [Tm.zac]; exact Tm.zes _)
    have i0 : ix [a.row] 0 = a.row := rfl
    have j0 : zaa 0 [a.row].length = true := rfl
    have la := (zlq ha).2
    refine ⟨fun ho => ?_, fun ho => by simp [Tm.qo] at ho⟩
    simp only [Tm.po] at ho
    have ea := (zku a ha).2 ho
    have ec := zph a.pq (by omega) (fun x hx => by have := zdw ha x hx; omega) a.pq 0 [] rfl (by simp)
    rw [Int.natCast_zero] at ec
    have hl := Tm.qzu (Q := a.pq)
    have es := zhh (a.pq.flatMap blkF) (by omega) (fewT.short fun x hx => by
      obtain ⟨z, hz, hx⟩ := List.mem_flatMap.1 hx
      have := zdw ha z hz
      rcases Tm.ygg.1 hx with ⟨_, rfl⟩ | ⟨_, rfl⟩
      · omega
      · unfold behT; simp only [List.length_append]; omega)
    rw [zfe, hk]
    simp only [Option.bind_some, hx, hi, cond_true, i0, j0, ea, ec, List.nil_append, es]
    rfl
  | .pair a b, h => by
    obtain ⟨ha, hb⟩ := sm2 h (Tm.qgb a b) rfl
    have hk := qev (.pair a b) rfl (znm h)
    have hx : ix (Tm.pair a b).row 0 = nd 10 := rfl
    have hi : zaa 0 (Tm.pair a b).row.length = true := zbp (by rw [Tm.zac]; exact Tm.zes _)
    have i0 : ix [a.row, b.row] 0 = a.row := rfl
    have i1 : ix [a.row, b.row] 1 = b.row := rfl
    have j0 : zaa 0 [a.row, b.row].length = true := rfl
    have j1 : zaa 1 [a.row, b.row].length = true := rfl
    have hbig := qfy h
    refine ⟨fun ho => by simp [Tm.po] at ho, fun ho => ?_⟩
    simp only [Tm.qo, Bool.and_eq_true] at ho
    have ea := (zku a ha).1 (Tm.zfq ho.1)
    have eb := (zku b hb).1 (Tm.zfq ho.2)
    have hl := Tm.yfz (Tm.zbk a).1 (Tm.zbk b).1
    have ec := qkn a.tr b.tr (by have := (zlq ha).1; omega) (by have := (zlq hb).1; omega) (by omega)
    have es := zoy (zhq a.tr b.tr goF ++ [(([], 3), ([], 1))]) (by rw [List.length_append, List.length_singleton]; omega) (fewQ.short fun x hx => by
      rcases List.mem_append.1 hx with hx | hx
      · obtain ⟨p, hp, q, hq, rfl⟩ := zgv.1 hx
        have := zdu ha p hp; have := zdu hb q hq
        refine ⟨by show p.1.length ≤ 12; omega, ?_⟩
        show (if p.2 = 1 then q else ([], 1)).1.length ≤ 12
        split
        · omega
        · simp
      · rw [List.mem_singleton.1 hx]; simp)
    rw [zhk, hk]
    simp only [Option.bind_some, hx, hi, cond_true, i0, i1, j0, j1, ea, eb, ec, zkv, room (show ((zhq a.tr b.tr goF).length + 1) * 64 ≤ 140737488355328 by omega), es]
    rfl
  | .going a b, h => by
    obtain ⟨ha, hb⟩ := sm2 h (Tm.zez a b) rfl
    have hk := qev (.going a b) rfl (znm h)
    have hx : ix (Tm.going a b).row 0 = nd 12 := rfl
    have hi : zaa 0 (Tm.going a b).row.length = true := zbp (by rw [Tm.zac]; exact Tm.zes _)
    have i0 : ix [a.row, b.row] 0 = a.row := rfl
    have i1 : ix [a.row, b.row] 1 = b.row := rfl
    have j0 : zaa 0 [a.row, b.row].length = true := rfl
    have j1 : zaa 1 [a.row, b.row].length = true := rfl
    have hbig := qfy h
    refine ⟨fun ho => by simp [Tm.po] at ho, fun ho => ?_⟩
    simp only [Tm.qo, Bool.and_eq_true] at ho
    have ea := (zku a ha).1 ho.1
    have eb := (zku b hb).1 (Tm.zfq ho.2)
    have hl := Tm.zmi (f := goF) (Tm.zbk a).1 (Tm.zbk b).1 (m := .going a b) rfl (Nat.le_refl _)
    have ec := qkn a.tr b.tr (by have := (zlq ha).1; omega) (by have := (zlq hb).1; omega) (by omega)
    have es := zoy (zhq a.tr b.tr goF) (by omega) (fewQ.short fun x hx => by
      obtain ⟨p, hp, q, hq, rfl⟩ := zgv.1 hx
      have := zdu ha p hp; have := zdu hb q hq
      refine ⟨by show p.1.length ≤ 12; omega, ?_⟩
      show (if p.2 = 1 then q else ([], 1)).1.length ≤ 12
      split
      · omega
      · simp)
    rw [zhk, hk]
    simp only [Option.bind_some, hx, hi, cond_true, i0, i1, j0, j1, ea, eb, ec, es]
    rfl
  | .stack a c, h => by
    obtain ⟨ha, hb⟩ := sm2 h (Tm.zgf a c) rfl
    have hk := qev (.stack a c) rfl (znm h)
    have hx : ix (Tm.stack a c).row 0 = nd 13 := rfl
    have hi : zaa 0 (Tm.stack a c).row.length = true := zbp (by rw [Tm.zac]; exact Tm.zes _)
    have i0 : ix [a.row, c.row] 0 = a.row := rfl
    have i1 : ix [a.row, c.row] 1 = c.row := rfl
    have j0 : zaa 0 [a.row, c.row].length = true := rfl
    have j1 : zaa 1 [a.row, c.row].length = true := rfl
    have hbig := qfy h
    refine ⟨fun ho => by simp [Tm.po] at ho, fun ho => ?_⟩
    simp only [Tm.qo, Bool.and_eq_true] at ho
    have ea := (zku a ha).2 ho.1
    have eb := (zku c hb).1 (Tm.zfq ho.2)
    have hl := Tm.zmi (f := fun (x : Qc) (q : Tc) => (x.1, zir x.2 q)) (Tm.zbk a).2 (Tm.zbk c).1 (m := .stack a c) rfl (Nat.le_refl _)
    have ec := zhz a.pq c.tr ⟨zqr, []⟩ (fun x q => [(x.1, zir x.2 q)]) (by have := (zlq ha).2; omega) (by have := (zlq hb).1; omega) (Nat.le_trans hl (by omega))
      (fun p hp q hq => (qiz p.1.1 p.1.2 p.2.1 p.2.2 q.1 q.2).trans (qpk p q (by have := zdw ha p hp; have := zdu hb q hq; omega)))
    have es := zoy (zhq a.pq c.tr fun (x : Qc) (q : Tc) => (x.1, zir x.2 q)) (by omega) (fewQ.short fun x hx => by
      obtain ⟨p, hp, q, hq, rfl⟩ := zgv.1 hx
      have := zdw ha p hp; have := zdu hb q hq; have := qmk p.2 q
      exact ⟨by show p.1.1.length ≤ 12; omega, by show (zir p.2 q).1.length ≤ 12; omega⟩)
    unfold zhq at es
    rw [zhk, hk]
    simp only [Option.bind_some, hx, hi, cond_true, i0, i1, j0, j1, ea, eb, ec, es]
    rfl
  | .fin s c, h => by
    have ha := sm1 h (Tm.zfd s c) rfl
    have hk := yii (.fin s c) rfl (znm h)
    have hx : ix (Tm.fin s c).row 0 = (14, ByteArray.empty, s) := rfl
    have hi : zaa 0 (Tm.fin s c).row.length = true := zbp (by rw [Tm.zac]; exact Tm.zes _)
    have i0 : ix [c.row] 0 = c.row := rfl
    have j0 : zaa 0 [c.row].length = true := rfl
    have la := (zlq ha).1
    refine ⟨fun ho => by simp [Tm.po] at ho, fun ho => ?_⟩
    simp only [Tm.qo] at ho
    have ea := (zku c ha).1 (Tm.zfq ho)
    have ec := qbb (Tm.fin s c).row (by rw [Tm.zac]; exact Tm.zes _) c.tr (by omega) c.tr 0 [] rfl (by simp)
    rw [Int.natCast_zero, hx] at ec
    have es := zoy (c.tr.map fun q => (([], s), q)) (by rw [List.length_map]; omega) (fewQ.short fun x hx => by
      obtain ⟨q, hq, rfl⟩ := List.mem_map.1 hx
      have := zdu ha q hq
      exact ⟨by simp, by show q.1.length ≤ 12; omega⟩)
    rw [zhk, hk]
    simp only [Option.bind_some, hx, hi, cond_true, i0, j0, ea, ec, List.nil_append, es]
    rfl
end Go.Proofs.YtjogkjgpbeenfaaGreatDoor.Sv
