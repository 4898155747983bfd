/- The laws of settling: what each tells. -/
import Derived.Test.YtjogkjgpbeenfaaGreatDoorW01
import Derived.Test.YtjogkjgpbeenfaaGreatDoorM5
import Derived.Test.YtjogkjgpbeenfaaGreatDoorW11
namespace Go.Proofs.YtjogkjgpbeenfaaGreatDoor.Sv
open Go Go.Sv Go.Rd
set_option linter.unusedVariables false
set_option linter.unusedSimpArgs false
theorem zsn [Dfr] {m : Tm} (hf : m.fine) (hs : m.size ≤ 200) (ho : m.po = true ∨ m.qo = true) : zgi m.row = m.st.row := by
  unfold zgi
  rw [znl.2 ⟨rfl, hf, hs⟩]
  simp [ho]
theorem qvs [Dfr] (l : List Nd) : zgi l = [] ∨ ∃ m : Tm, l = m.row ∧ m.fine ∧ m.size ≤ 200 ∧ (m.po = true ∨ m.qo = true) ∧ zgi l = m.st.row ∧ sOf l = m.so := by
  unfold zgi sOf
  cases h : tmOf l with
  | none => exact .inl rfl
  | some m =>
    obtain ⟨rfl, h2, h3⟩ := znl.1 h
    by_cases ho : m.po = true ∨ m.qo = true
    · exact .inr ⟨m, rfl, h2, h3, ho, by simp [ho], rfl⟩
    · exact .inl (by simp [ho])
end Go.Proofs.YtjogkjgpbeenfaaGreatDoor.Sv

/- What package doom tells of any place: in plain words. -/
namespace Go.Proofs.YtjogkjgpbeenfaaGreatDoor.Sv
open Go Go.Sv Go.Rd
set_option linter.unusedVariables false
set_option linter.unusedSimpArgs false
def setL (l : List Nd) : Prop := l ≠ [] ∧ zgi l = l
theorem qvu [Dfr] {l : List Nd} (h : setL l) : ∃ m : Tm, l = m.row ∧ m.fine ∧ m.size ≤ 200 ∧ (m.po = true ∨ m.qo = true) ∧ m.st = m ∧ sOf l = m.so := by
  obtain ⟨h0, h1⟩ := h
  rcases qvs l with h2 | ⟨m, hm, hf, hs, ho, hst, hso⟩
  · rw [h2] at h1; exact absurd h1.symm h0
  · refine ⟨m, hm, hf, hs, ho, ?_, hso⟩
    rw [h1, hm] at hst
    exact (Tm.qok hst).symm
theorem qfq [Dfr] {m : Tm} (hf : m.fine) (hs : m.size ≤ 200) (ho : m.po = true ∨ m.qo = true) (h : m.st = m) : setL m.row := by
  refine ⟨Tm.qth _, ?_⟩
  rw [zsn hf hs ho, h]
noncomputable def dmL (x : List Nd) : Bool := (@decide (setL x) (Classical.propDecidable _)) && (match tree x with | some t => t.bang | none => false)
theorem yvy [Dfr] {c : T} (hok : c.ok) (hs : c.size ≤ 1000000) : zte c.row = some (dmL c.row) := by
  rw [qxn (zpe hok) (by rw [T.zac]; exact hs)]
  unfold dmL
  rw [zpe hok]
  congr 2
  by_cases h : setL c.row
  · rw [decide_eq_true (p := c.row ≠ [] ∧ zgi c.row = c.row) h]
    exact (@decide_eq_true _ (Classical.propDecidable _) h).symm
  · rw [decide_eq_false (p := c.row ≠ [] ∧ zgi c.row = c.row) h]
    exact (@decide_eq_false _ (Classical.propDecidable _) h).symm
theorem yol [Dfr] : ∀ p : List (Nat × Nat × T), (zca p).1.length ≤ p.length
  | [] => by simp [zca]
  | x :: p => by
    have ih := yol p
    rw [zca]
    split
    · simp; omega
    · split
      · simp; omega
      · simp; omega
theorem ysf [Dfr] {t : T} (hok : t.ok) {i k : Nat} {y : List Nd} (h : y ∈ (zca (t.path i k)).1) : ∃ c : T, c.ok ∧ c.size ≤ t.size ∧ y = c.row := by
  obtain ⟨x, hx, h7, rfl⟩ := qxv h
  exact (qwm t i k hok x hx).2 h7
noncomputable def qls (t : T) (k : Nat) : Bool := !(zca (t.path 0 k)).2 || (zca (t.path 0 k)).1.any dmL
theorem ybl [Dfr] [zjt] {l : List Nd} {t : T} (ht : tree l = some t) (hl : l.length ≤ 1000000) (hs : setL l) {k : Nat} (hk : k ∈ t.wts 0) : zxg l (k : Int) = some (qls t k) := by
  obtain ⟨hok, hrow⟩ := zni.1 ht
  have hlen : l.length = t.size := by rw [hrow, T.zac]
  refine yel ht hl hs hk dmL (fun x hx => ?_) ?_
  · obtain ⟨c, c1, c2, rfl⟩ := ysf hok hx
    exact yvy c1 (by omega)
  · have h1 := yol (t.path 0 k)
    have h2 := T.qcm t 0 k
    omega
theorem yfg [Dfr] (t : T) : (t.wts 0).length ≤ t.size := by
  rw [zol t.row t 0 [] (by rw [List.drop_zero, List.append_nil])]
  have := List.length_filter_le (fun k => zge (t.row.getD k default).1 && !qew (t.path 0 k)) (List.range' 0 t.size)
  rw [List.length_range'] at this
  exact this
end Go.Proofs.YtjogkjgpbeenfaaGreatDoor.Sv

/- What package move computes: in plain words. -/
namespace Go.Proofs.YtjogkjgpbeenfaaGreatDoor.Sv
open Go Go.Sv Go.Rd
set_option linter.unusedVariables false
set_option linter.unusedSimpArgs false
def tabW : List (Int × List (Int × Nat)) := [(1, [(1, zaz)]), (6, [(2, zaz), (3, zaz)]), (4, [(4, zaz), (5, zfl)]), (10, [(4, zaz), (5, zfl)])]
class zqx [Dfr] : Prop where
  ways : zpg = some tabW
def zoh (kd : Int) (at_ : Int) (free : Bool) : List Mv :=
  if kd = 1 then [(at_, 1)] else if kd = 6 then [(at_, 2), (at_, 3)] else (at_, 4) :: (if free = true then [(at_, 5)] else [])
theorem yal [Dfr] (kd at_ : Int) (f : Bool) : (zoh kd at_ f).length ≤ 2 := by
  unfold zoh
  split
  · simp
  · split
    · simp
    · split <;> simp
theorem ymn [Dfr] {kd x : Int} {f : Bool} : (∀ p ∈ zoh kd x f, p.1 = x) ∧ True := by
  unfold zoh
  split
  · simp
  · split
    · simp
    · split <;> simp
theorem zqp [Dfr] (l : List Nd) (tb : List (Int × List (Int × Nat))) (at_ : Int) (y11 : List Int) (y12 y13 : Int) (ws : List (Int × Nat)) (hw : ws.length ≤ 1000) (ok : Nat → Bool)
    (hd : ∀ w ∈ ws, dyn E ⟨w.2, []⟩ [.one (.slice 36 (.pair (.int .i64) (.pair .str (.int .i64))) l .no), .one (.int .i64 at_)] .bool = some (ok w.2)) : ∀ (r : List (Int × Nat)) (i : Nat) (acc : List Mv), ws.drop i = r → acc.length + r.length ≤ 4000000 →
    zfh l tb acc at_ y11 y12 y13 ws (ws.length : Int) (i : Int) = some (0, (l, tb, acc ++ (r.filter fun w => ok w.2).map fun w => (at_, w.1), y11, y12, y13))
  | [], i, acc, h, ha => by
    obtain ⟨h1, h2⟩ := drop_nil h
    rw [zug]
    simp only [h2, cond_false]
    simp
  | w :: r, i, acc, h, ha => by
    obtain ⟨h1, h2, h3, h4, h5, h6⟩ := zad h
    have hm := hd w (List.mem_of_mem_drop (by rw [h]; exact List.mem_cons_self ..))
    simp only [List.length_cons] at ha
    rw [zug]
    simp only [h2, h3, h4, cond_true, hm, Option.bind_some, zcf (show i < 9223372036854775807 by omega)]
    rw [List.filter_cons]
    cases ho : ok w.2 with
    | true =>
      simp only [cond_true, room (show (acc.length + 1) * 16 ≤ 140737488355328 by omega), if_true]
      rw [zqp l tb at_ y11 y12 y13 ws hw ok hd r (i + 1) _ h5 (by simp; omega)]
      simp
    | false =>
      simp only [cond_false, Bool.false_eq_true, if_false]
      rw [zqp l tb at_ y11 y12 y13 ws hw ok hd r (i + 1) _ h5 (by omega)]
theorem qlk [Dfr] (l : List Nd) (at_ : Int) (y11 : List Int) (y12 y13 : Int) (kd : Int) (hk : zge kd = true) (f : Bool) (hf : zxg l at_ = some f) (acc : List Mv) (ha : acc.length ≤ 3000000) :
    zfh l tabW acc at_ y11 y12 y13 (zms tabW kd) ((zms tabW kd).length : Int) 0 = some (0, (l, tabW, acc ++ zoh kd at_ f, y11, y12, y13)) := by
  have ha' : dyn E ⟨zaz, []⟩ [.one (.slice 36 (.pair (.int .i64) (.pair .str (.int .i64))) l .no), .one (.int .i64 at_)] .bool = some true := (qpd l at_).trans (qsb l at_)
  have hf' : dyn E ⟨zfl, []⟩ [.one (.slice 36 (.pair (.int .i64) (.pair .str (.int .i64))) l .no), .one (.int .i64 at_)] .bool = some f := (qxm l at_).trans hf
  have key : ∀ ws : List (Int × Nat), zms tabW kd = ws → (∀ w ∈ ws, w.2 = zaz ∨ w.2 = zfl) → ws.length ≤ 2 →
      zfh l tabW acc at_ y11 y12 y13 (zms tabW kd) ((zms tabW kd).length : Int) 0 = some (0, (l, tabW, acc ++ (ws.filter fun w => if w.2 = zfl then f else true).map fun w => (at_, w.1), y11, y12, y13)) := fun ws e hm hl => by
    have := zqp l tabW at_ y11 y12 y13 ws (by omega) (fun q => if q = zfl then f else true) (fun w hw => by
      rcases hm w hw with h | h
      · rw [h, ha', if_neg (by decide)]
      · rw [h, hf', if_pos rfl]) ws 0 acc rfl (by omega)
    rw [Int.natCast_zero] at this
    rw [e]
    exact this
  unfold zge at hk
  have hk := of_decide_eq_true hk
  have d1 : ¬ zaz = zfl := by decide
  rcases hk with rfl | rfl | rfl | rfl
  · rw [key [(1, zaz)] rfl (by simp) (by simp)]
    simp [zoh, d1]
  · rw [key [(2, zaz), (3, zaz)] rfl (by simp) (by simp)]
    simp [zoh, d1]
  · rw [key [(4, zaz), (5, zfl)] rfl (by simp) (by simp)]
    cases f <;> simp [zoh, d1]
  · rw [key [(4, zaz), (5, zfl)] rfl (by simp) (by simp)]
    cases f <;> simp [zoh, d1]
theorem zqq [Dfr] (l : List Nd) (xs : List Int) (hx : xs.length ≤ 1000000) (fr : Int → Bool) (hk : ∀ x ∈ xs, zaa x l.length = true ∧ zge (ix l x).1 = true ∧ zxg l x = some (fr x)) : ∀ (r : List Int) (i : Nat) (acc : List Mv), xs.drop i = r → acc.length ≤ 2 * i →
    zks l tabW acc xs (xs.length : Int) (i : Int) = some (0, acc ++ r.flatMap fun x => zoh (ix l x).1 x (fr x))
  | [], i, acc, h, ha => by
    obtain ⟨h1, h2⟩ := drop_nil h
    rw [zuh]
    simp only [h2, cond_false]
    simp
  | x :: r, i, acc, h, ha => by
    obtain ⟨h1, h2, h3, h4, h5, h6⟩ := zad h
    obtain ⟨k1, k2, k3⟩ := hk x (List.mem_of_mem_drop (by rw [h]; exact List.mem_cons_self ..))
    have hl := yal (ix l x).1 x (fr x)
    rw [zuh]
    simp only [h2, h3, h4, cond_true, k1, qlk l x xs (xs.length : Int) (i : Int) (ix l x).1 k2 (fr x) k3 acc (by omega), Option.bind_some, zcf (show i < 9223372036854775807 by omega)]
    rw [zqq l xs hx fr hk r (i + 1) _ h5 (by rw [List.length_append]; omega)]
    simp
noncomputable def mvsT (l : List Nd) (t : T) : List Mv := (t.wts 0).flatMap fun k => zoh (l.getD k default).1 (k : Int) (qls t k)
theorem yfh [Dfr] {l : List Nd} {t : T} (ht : tree l = some t) {k : Nat} (hk : k ∈ t.wts 0) : k < l.length ∧ zge (l.getD k default).1 = true := by
  obtain ⟨hok, hrow⟩ := zni.1 ht
  rw [zol l t 0 [] (by rw [List.drop_zero, List.append_nil]; exact hrow), List.mem_filter] at hk
  obtain ⟨h1, h2⟩ := hk
  rw [List.mem_range'_1] at h1
  rw [Bool.and_eq_true] at h2
  exact ⟨by rw [hrow, T.zac]; omega, h2.1⟩
theorem ysh [Dfr] {l : List Nd} {t : T} (ht : tree l = some t) {x : Int} (hx : x ∈ (t.wts 0).map fun (k : Nat) => (k : Int)) : zaa x l.length = true ∧ zge (ix l x).1 = true ∧ ix l x = l.getD x.toNat default := by
  obtain ⟨k, hk, rfl⟩ := List.mem_map.1 hx
  obtain ⟨h1, h2⟩ := yfh ht hk
  have h3 : ix l (k : Int) = l.getD k default := by rw [yax h1, List.getD_eq_getElem?_getD, List.getElem?_eq_getElem h1]; rfl
  exact ⟨qhj h1, by rw [h3]; exact h2, h3⟩
theorem qsc [Dfr] [zjt] [zqx] {l : List Nd} {t : T} (ht : tree l = some t) (hl : l.length ≤ 1000000) (hs : setL l) : zkt l = some (mvsT l t) := by
  obtain ⟨hok, hrow⟩ := zni.1 ht
  have hlen : l.length = t.size := by rw [hrow, T.zac]
  have hw := yfg t
  have e := zqq l ((t.wts 0).map fun (k : Nat) => (k : Int)) (by rw [List.length_map]; omega) (fun x => qls t x.toNat) (fun x hx => by
    obtain ⟨k1, k2, _⟩ := ysh ht hx
    obtain ⟨k, hk, rfl⟩ := List.mem_map.1 hx
    exact ⟨k1, k2, ybl ht hl hs hk⟩) _ 0 [] rfl (by simp)
  rw [Int.natCast_zero] at e
  rw [qax, qkk, zqx.ways, Option.bind_some, qhv ht hl hs, Option.bind_some, e, Option.bind_some, List.nil_append]
  congr 1
  show List.flatMap _ (List.drop 0 _) = _
  unfold mvsT
  rw [List.drop_zero, List.flatMap_map, List.flatMap_def, List.flatMap_def]
  refine congrArg List.flatten (List.map_congr_left fun k hk => ?_)
  rw [(ysh ht (List.mem_map.2 ⟨k, hk, rfl⟩)).2.2]
  rfl
theorem qph [Dfr] [zjt] [zqx] {l : List Nd} (hl : l.length ≤ 1000000) (hs : ¬ setL l) : zkt l = some [] := by
  have e := zqq l [] (by simp) (fun _ => false) (fun x hx => by cases hx) [] 0 [] rfl (by simp)
  rw [Int.natCast_zero] at e
  rw [qax, qkk, zqx.ways, Option.bind_some, qsu hl hs, Option.bind_some, e]
  rfl
noncomputable def enL (l : List Nd) : List Mv := match @decide (setL l) (Classical.propDecidable _), tree l with
  | true, some t => mvsT l t
  | _, _ => []
theorem qku [Dfr] {l : List Nd} {t : T} (ht : tree l = some t) (hs : setL l) : enL l = mvsT l t := by
  unfold enL
  rw [@decide_eq_true _ (Classical.propDecidable _) hs, ht]
theorem ynl [Dfr] {l : List Nd} (hs : ¬ setL l) : enL l = [] := by
  unfold enL
  rw [@decide_eq_false _ (Classical.propDecidable _) hs]
theorem qvt [Dfr] {l : List Nd} (h : setL l) : ∃ m : Tm, l = m.row ∧ m.fine ∧ m.size ≤ 200 ∧ (m.po = true ∨ m.qo = true) ∧ m.st = m ∧ sOf l = m.so ∧ tree l = some m.t := by
  obtain ⟨m, hm, hf, h1, h2, h3, h4⟩ := qvu h
  exact ⟨m, hm, hf, h1, h2, h3, h4, by rw [hm]; exact zpe (Tm.t_ok m)⟩
theorem qay [Dfr] [zjt] [zqx] (l : List Nd) (hl : l.length ≤ 1000000) : zkt l = some (enL l) := by
  by_cases hs : setL l
  · obtain ⟨m, _, _, _, _, _, _, ht⟩ := qvt hs
    rw [qsc ht hl hs, qku ht hs]
  · rw [qph hl hs, ynl hs]
theorem yrj [Dfr] (l : List Nd) (t : T) : (mvsT l t).length ≤ 2 * t.size := by
  have hw := yfg t
  unfold mvsT
  have key : ∀ r : List Nat, (r.flatMap fun k => zoh (l.getD k default).1 (k : Int) (qls t k)).length ≤ 2 * r.length := fun r => by
    induction r with
    | nil => simp
    | cons k r ih =>
      have := yal (l.getD k default).1 (k : Int) (qls t k)
      simp only [List.flatMap_cons, List.length_append, List.length_cons]
      omega
  have := key (t.wts 0)
  omega
theorem yeg [Dfr] (l : List Nd) : (enL l).length ≤ 400 := by
  by_cases hs : setL l
  · obtain ⟨m, hm, _, hz, _, _, _, ht⟩ := qvt hs
    rw [qku ht hs]
    have := yrj l m.t
    have h2 : m.t.size = m.size := by rw [← T.zac]; exact Tm.zac m
    omega
  · rw [ynl hs]; simp
theorem yam [Dfr] [zjt] [zqx] (l : List Nd) (m : Mv) (hl : l.length ≤ 1000000) : qpg l m = some (decide (m ∈ enL l)) := by
  have h := yeg l
  rw [yid, qay l hl, Option.bind_some, zsh _ _ (by omega)]
  rfl
end Go.Proofs.YtjogkjgpbeenfaaGreatDoor.Sv
