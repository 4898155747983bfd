/- Mix's inner function, at every length. -/
import Derived.Test.YtjogkjgpbeenfaaGreatDoorSvM
import Derived.Test.YtjogkjgpbeenfaaGreatDoorSvK
import Derived.Test.YtjogkjgpbeenfaaGreatDoorM7
namespace Go.Proofs.YtjogkjgpbeenfaaGreatDoor.Sv
open Go Go.Sv Go.Proofs Go.Rd
set_option linter.unusedVariables false
set_option linter.unusedSimpArgs false
set_option maxRecDepth 100000
def mixH (N : Nat) (D p q : List ByteArray) (xs : List (List ByteArray)) : Option (List (List ByteArray)) :=
  if p.length + q.length < N ∧ D.length + p.length + q.length ≤ 1000000 ∧ xs.length + (zid D p q).length ≤ 1000000 then some (xs ++ zid D p q) else none
theorem yuq [Dfr] {G : PinF} (hp : ybz Tryz.prog (Es G)) : qde Tryz.prog (Es G) :=
  ⟨tab.mixed, ⟨fun t i h => tab.types.ti t i h⟩, ⟨tab.elems.row, tab.elems.el, tab.elems.arr⟩, fun f b e u h => have r := tab.rows f b e u h; ⟨r.call, r.none, r.sort, r.compact⟩, hp, fun f e u h => tab.revs f e u h⟩
theorem yur [Dfr] [zqy] {G : PinF} : zzp Tryz.prog (Es G) (run E 1) := fun f x r h => by
  obtain ⟨h1, h2⟩ := zso yiq 1 f x r h
  exact ⟨h1, fun w F0 G A vs hA => h2 w F0 G A vs ⟨hA.rel, hA.bx, hA.tgm, hA.tgi, hA.f0, hA.glob⟩⟩
theorem zwo [Dfr] {n b : Nat} (h : n ≤ 1000001) (hb : b ≤ 24) : zav n b = true := by
  unfold zav
  refine decide_eq_true ?_
  have : n * b ≤ 1000001 * 24 := Nat.mul_le_mul h hb
  omega
theorem yen [Dfr] {α : Type} (D : List α) : cut D 0 (D.length : Int) = D := by simp [cut]
theorem ynu [Dfr] {α : Type} (x : α) (p : List α) : cut (x :: p) 1 ((x :: p).length : Int) = p := by simp [cut]
theorem qqo [Dfr] {n : Nat} : zdh 0 (n : Int) n = true := by simp [zdh]
theorem qhx [Dfr] {n : Nat} (h : 1 ≤ n) : zdh 1 (n : Int) n = true := by simp [zdh]; omega
theorem qxg [Dfr] {n : Nat} (h : 1 ≤ n) : zaa 0 n = true := by simp [zaa]; omega
theorem qll [Dfr] (D p q : List ByteArray) : 1 ≤ (zid D p q).length := by
  rw [zky]
  have : ∀ m n, 1 ≤ chN m n := fun m => by
    induction m with
    | zero => intro n; rw [chN]; omega
    | succ m ih => intro n; cases n with
      | zero => rw [chN]; omega
      | succ n => rw [chN]; have := ih (n + 1); omega
  exact this _ _
theorem yye [Dfr] {N : Nat} {D p q : List ByteArray} {xs ys : List (List ByteArray)} (h : mixH (N + 1) D p q xs = some ys) : ∃ tag, ∀ br n, zfk (Es (qli (mixH N))) (run E 1) n zvh qvw 0 none (qog yqf .str D p q zrr qgj qaj xs br zvh) (ybt zrr qgj qaj) = some (br, tag, ys) := by
  unfold mixH at h
  split at h
  · rename_i hc
    obtain ⟨h1, h2, h3⟩ := hc
    simp only [Option.some.injEq] at h
    subst h
    have hG : ∀ D p q xs, p.length + q.length < N → D.length + p.length + q.length ≤ 1000000 → xs.length + (zid D p q).length ≤ 1000000 → qli (mixH N) zvh zrr qgj (zmh D p q) qaj xs = some (xs ++ zid D p q) := fun D p q xs a b c => by
      rw [yqg]; unfold mixH; rw [if_pos ⟨a, b, c⟩]
    have hw : IntKind.wrap .i64 ((p.length : Int) + (q.length : Int)) = (p.length : Int) + (q.length : Int) := zqz (by omega) (by omega)
    have hp1 := qll D p q
    cases p with
    | nil =>
      cases q with
      | nil =>
        refine ⟨1152, fun br n => (qvv _ D [] [] xs br n).trans ?_⟩
        have e0 : ((IntKind.wrap .i64 ((([] : List ByteArray).length : Int) + (([] : List ByteArray).length : Int))) == 0) = true := by rw [hw]; rfl
        have e2 : decide ((([] : List ByteArray).length : Int) > 0) = false := by simp
        rw [e0, e2]
        simp only [cond_false, cond_true, zbx, zwo (n := D.length) (b := 16) (by omega) (by omega), Option.bind_some, zwo (n := xs.length + 1) (b := 24) (by omega) (by omega), zid]
      | cons y q =>
        refine ⟨192, fun br n => (qvv _ D [] (y :: q) xs br n).trans ?_⟩
        simp only [List.length_cons, List.length_nil] at h1 h2 h3 hw hp1
        have e0 : ((IntKind.wrap .i64 ((([] : List ByteArray).length : Int) + ((y :: q).length : Int))) == 0) = false := by
          simp only [List.length_cons, List.length_nil]
          rw [hw]
          simp; omega
        have e1 : decide (((y :: q).length : Int) > 0) = true := by simp
        have e2 : decide ((([] : List ByteArray).length : Int) > 0) = false := by simp
        rw [e0, e1, e2]
        simp only [cond_false, cond_true, qqo, yen, ynu, qxg (n := (y :: q).length) (by simp), qhx (n := (y :: q).length) (by simp), zwo (n := D.length + 1) (b := 16) (by omega) (by omega), decide_true, Bool.and_true, Bool.and_self]
        have em : zid D [] (y :: q) = zid (D ++ [y]) [] q := by rw [zid]
        show ((qli (mixH N) zvh zrr qgj (zmh (D ++ [y]) [] q) qaj xs).bind fun r3 => some (br, 192, r3)) = _
        rw [hG (D ++ [y]) [] q xs (by simp only [List.length_nil]; omega) (by simp only [List.length_append, List.length_cons, List.length_nil]; omega) (by rw [← em]; exact h3), em]
        rfl
    | cons x p =>
      simp only [List.length_cons] at h1 h2 h3 hw hp1
      have e0 : ∀ q : List ByteArray, (IntKind.wrap .i64 (((p.length + 1 : Nat) : Int) + (q.length : Int)) = ((p.length + 1 : Nat) : Int) + (q.length : Int)) → ((IntKind.wrap .i64 (((x :: p).length : Int) + (q.length : Int))) == 0) = false := fun q hw => by
        simp only [List.length_cons]
        rw [hw]
        simp; omega
      have e1 : decide (((x :: p).length : Int) > 0) = true := by simp
      cases q with
      | nil =>
        refine ⟨192, fun br n => (qvv _ D (x :: p) [] xs br n).trans ?_⟩
        have e2 : decide ((([] : List ByteArray).length : Int) > 0) = false := by simp
        rw [e0 [] hw, e1, e2]
        simp only [cond_false, cond_true, qqo, yen, ynu, qxg (n := (x :: p).length) (by simp), qhx (n := (x :: p).length) (by simp), zwo (n := D.length + 1) (b := 16) (by omega) (by omega), decide_true, Bool.and_true, Bool.and_self]
        have em : zid D (x :: p) [] = zid (D ++ [x]) p [] := by rw [zid]
        show ((qli (mixH N) zvh zrr qgj (zmh (D ++ [x]) p []) qaj xs).bind fun r3 => some (br, 192, r3)) = _
        rw [hG (D ++ [x]) p [] xs (by simp only [List.length_nil] at h1 ⊢; omega) (by simp only [List.length_append, List.length_cons, List.length_nil] at h2 ⊢; omega) (by rw [← em]; exact h3), em]
        rfl
      | cons y q =>
        refine ⟨192, fun br n => (qvv _ D (x :: p) (y :: q) xs br n).trans ?_⟩
        have e2 : decide (((y :: q).length : Int) > 0) = true := by simp
        rw [e0 (y :: q) hw, e1, e2]
        simp only [List.length_cons] at h1 h2
        simp only [cond_false, cond_true, qqo, yen, ynu, qxg (n := (x :: p).length) (by simp), qhx (n := (x :: p).length) (by simp), qxg (n := (y :: q).length) (by simp), qhx (n := (y :: q).length) (by simp), zwo (n := D.length + 1) (b := 16) (by omega) (by omega), decide_true, Bool.and_true, Bool.and_self]
        have em : zid D (x :: p) (y :: q) = zid (D ++ [x]) p (y :: q) ++ zid (D ++ [y]) (x :: p) q := by rw [zid]
        rw [em, List.length_append] at h3
        show ((qli (mixH N) zvh zrr qgj (zmh (D ++ [x]) p (y :: q)) qaj xs).bind fun r2 => (qli (mixH N) zvh zrr qgj (zmh (D ++ [y]) (x :: p) q) qaj r2).bind fun r3 => some (br, 192, r3)) = _
        rw [hG (D ++ [x]) p (y :: q) xs (by simp only [List.length_cons]; omega) (by simp only [List.length_append, List.length_cons, List.length_nil]; omega) (by omega), Option.bind_some,
          hG (D ++ [y]) (x :: p) q _ (by simp only [List.length_cons]; omega) (by simp only [List.length_append, List.length_cons, List.length_nil]; omega) (by rw [List.length_append]; omega), em, List.append_assoc]
        rfl
  · cases h
theorem ylb [Dfr] {N : Nat} : ∀ v t' e' args u' xs ys, (Es (qli (mixH N))).pinF v t' e' args u' xs = some ys → v = zvh ∧ t' = zrr ∧ e' = qgj ∧ ∃ h : u' = qaj, ((zyb args).bind fun x => mixH N x.1 x.2.1 x.2.2 (h ▸ xs : List qaj.den)) = some (h ▸ ys : List qaj.den) := fun v t' e' args u' xs ys h => by
  have h' : qli (mixH N) v t' e' args u' xs = some ys := h
  unfold qli at h'
  split at h'
  · rename_i hq
    obtain ⟨rfl, rfl, rfl, rfl⟩ := hq
    refine ⟨rfl, rfl, rfl, rfl, ?_⟩
    cases ha : zyb args with
    | none => rw [ha] at h'; cases h'
    | some x =>
      rw [ha] at h'
      simp only [Option.bind_some, Option.map_eq_some_iff] at h' ⊢
      obtain ⟨ys', h1, h2⟩ := h'
      have h3 : ys' = ys := h2
      rw [← h3]; exact h1
  · cases h'
theorem yla [Dfr] [zqy] : ∀ N, ytv Tryz.prog (Es (qli (mixH N))) zvh zrr qgj qaj (fun args xs => (zyb args).bind fun x => mixH N x.1 x.2.1 x.2.2 xs)
  | 0 => ⟨⟨Tryz.f154, Tryz.func154, by kernel_rfl, by kernel_rfl⟩, fun args xs ys h => by
      simp only [Option.bind_eq_some_iff] at h
      obtain ⟨x, _, h⟩ := h
      simp [mixH] at h, fun args xs ys h => by
      simp only [Option.bind_eq_some_iff] at h
      obtain ⟨x, _, h⟩ := h
      simp [mixH] at h⟩
  | N + 1 => by
    have ih := yla N
    refine ⟨ih.call, fun args xs ys h => ?_, fun args xs ys h w F bo br so vs own hF hbo hown hheap hrow hbr hcell hglob hvs => ?_⟩
    · simp only [Option.bind_eq_some_iff] at h
      obtain ⟨x, hx, _⟩ := h
      rw [qgk hx]
      intro s hs
      simp only [zmh, List.mem_cons, List.not_mem_nil, or_false] at hs
      rcases hs with rfl | rfl | rfl <;> exact ⟨_, _, _, rfl⟩
    · simp only [Option.bind_eq_some_iff] at h
      obtain ⟨⟨D, p, q⟩, hx, h⟩ := h
      rw [qgk hx] at hvs
      obtain ⟨tag, hev⟩ := yye h
      exact yhl (yuq (yvl ih ylb)) yur (f := zvh) (fn := Tryz.f154) (body := qvw) (k := 0) Tryz.func154 (by kernel_rfl) (by kernel_rfl) (by kernel_rfl) (fun br => hev br 0) w F bo br so vs own hF hbo hown hheap hrow hbr hcell hglob hvs
end Go.Proofs.YtjogkjgpbeenfaaGreatDoor.Sv
