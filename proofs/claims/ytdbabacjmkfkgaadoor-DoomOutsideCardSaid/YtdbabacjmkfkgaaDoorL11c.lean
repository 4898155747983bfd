/- DoomOutside, DoomPar: what each tells. -/
import Derived.Test.YtdbabacjmkfkgaaDoorL11
namespace Go.Proofs.YtdbabacjmkfkgaaDoor.Sv
open Go Go.Sv Go.Rd
set_option linter.unusedVariables false
set_option linter.unusedSimpArgs false

theorem law11_DoomOutside_l0s [Dfr] (b : Bool) (l xs : List Nd) (hx : xs.length ≤ 1000000) : ∀ (r : List Nd) (i n : Nat), xs.drop i = r → n ≤ i → ∃ k : Nat, law11_DoomOutside_l0 b l (n : Int) xs (xs.length : Int) (i : Int) = some (0, (b, l, (k : Int))) ∧ n ≤ k ∧ (k = n → ∀ x ∈ r, x.1 ≠ 9 ∧ x.1 ≠ 7)
  | [], i, n, h, hn => by
    obtain ⟨h1, h2⟩ := drop_nil h
    rw [law11_DoomOutside_l0_eq]
    simp only [h2, cond_false]
    exact ⟨n, rfl, Nat.le_refl _, fun _ x hx => by cases hx⟩
  | x :: r, i, n, h, hn => by
    obtain ⟨hi, hd0, hix, hxx, hr, hle⟩ := drop_cons h
    have hw : w64 ((i : Int) + 1) = ((i + 1 : Nat) : Int) := w_succ (by omega)
    have hwn : w64 ((n : Int) + 1) = ((n + 1 : Nat) : Int) := w_succ (by omega)
    rw [law11_DoomOutside_l0_eq]
    simp only [hd0, hix, hxx, cond_true, hw, hwn]
    by_cases h9 : x.1 = 9
    · rw [show (x.1 == 9) = true by rw [h9]; rfl]
      obtain ⟨k, h1, h2, h3⟩ := law11_DoomOutside_l0s b l xs hx r (i + 1) (n + 1) hr (by omega)
      exact ⟨k, h1, by omega, fun e => by omega⟩
    · rw [show (x.1 == 9) = false by rw [beq_eq_false_iff_ne]; exact h9]
      by_cases h7 : x.1 = 7
      · rw [show (x.1 == 7) = true by rw [h7]; rfl]
        obtain ⟨k, h1, h2, h3⟩ := law11_DoomOutside_l0s b l xs hx r (i + 1) (n + 1) hr (by omega)
        exact ⟨k, h1, by omega, fun e => by omega⟩
      · rw [show (x.1 == 7) = false by rw [beq_eq_false_iff_ne]; exact h7]
        obtain ⟨k, h1, h2, h3⟩ := law11_DoomOutside_l0s b l xs hx r (i + 1) n hr (by omega)
        refine ⟨k, h1, by omega, fun e y hy => ?_⟩
        rcases List.mem_cons.1 hy with rfl | hy
        · exact ⟨h9, h7⟩
        · exact h3 e y hy

theorem law11_DoomOutside_l2s [Dfr] (b : Bool) (l : List Nd) (xs : List Int) (hx : xs.length ≤ 1000000) (hk : ∀ k ∈ xs, doom_Free l k = some true ∧ doom_Beside l k = some []) : ∀ (r : List Int) (i : Nat), xs.drop i = r → law11_DoomOutside_l2 b l xs (xs.length : Int) (i : Int) = some (0, (b, l))
  | [], i, h => by
    obtain ⟨h1, h2⟩ := drop_nil h
    rw [law11_DoomOutside_l2_eq]
    simp only [h2, cond_false]
  | x :: r, i, h => by
    obtain ⟨hi, hd0, hix, hxx, hr, hle⟩ := drop_cons h
    obtain ⟨k1, k2⟩ := hk x (List.mem_of_mem_drop (h ▸ List.mem_cons_self .. : x ∈ xs.drop i))
    rw [law11_DoomOutside_l2_eq]
    simp only [hd0, hix, hxx, cond_true, w_succ (show i < 9223372036854775807 by omega), k1, k2, Option.bind_some, Bool.not_true, cond_false]
    exact law11_DoomOutside_l2s b l xs hx hk r (i + 1) hr

theorem law11_DoomOutside_l4s [Dfr] (b : Bool) (l : List Nd) (xs : List Int) (hx : xs.length ≤ 1000000) (hk : ∀ k ∈ xs, doom_Free l k = some false) : ∀ (r : List Int) (i : Nat), xs.drop i = r → law11_DoomOutside_l4 b l xs (xs.length : Int) (i : Int) = some (0, b)
  | [], i, h => by
    obtain ⟨h1, h2⟩ := drop_nil h
    rw [law11_DoomOutside_l4_eq]
    simp only [h2, cond_false]
  | x :: r, i, h => by
    obtain ⟨hi, hd0, hix, hxx, hr, hle⟩ := drop_cons h
    have k1 := hk x (List.mem_of_mem_drop (h ▸ List.mem_cons_self .. : x ∈ xs.drop i))
    rw [law11_DoomOutside_l4_eq]
    simp only [hd0, hix, hxx, cond_true, w_succ (show i < 9223372036854775807 by omega), k1, Option.bind_some, cond_false]
    exact law11_DoomOutside_l4s b l xs hx hk r (i + 1) hr

theorem wts_len [Dfr] (t : T) : (t.wts 0).length ≤ t.size := by
  rw [wts_filter t.row t 0 [] (by rw [List.drop_zero, List.append_nil])]
  have := List.length_filter_le (fun k => waitK (t.row.getD k default).1 && !idleP (t.path 0 k)) (List.range' 0 t.size)
  rw [List.length_range'] at this
  exact this

/-- The places that wait in a block. -/
theorem block_path [Dfr] {a : Tm} {k : Nat} (hk : k ∈ (Tm.block a).t.wts 0) : k ∈ a.t.wts 1 ∧ (Tm.block a).t.path 0 k = (0, 0, (Tm.block a).t) :: a.t.path 1 k := by
  have h : k ∈ a.t.wts 1 := hk
  have := wts_range a.t 1 k h
  refine ⟨h, ?_⟩
  show (T.n1 (nd 9) a.t).path 0 k = _
  rw [T.path_n1, if_neg (by omega)]
  rfl

theorem law11_DoomOutside_true [Dfr] [HasOver] (l : List Nd) (hl : wfRow l) : law11_DoomOutside l = some true := by
  rw [law11_DoomOutside_eq, law11_few_s, Option.bind_some]
  by_cases hf : l.length ≤ 100 ∧ dep l ≤ 24
  · rw [decide_eq_true hf]
    simp only [Bool.not_true, cond_false]
    rw [settle_Settle_s l (by omega), Option.bind_some]
    rcases settleR_cases l with h0 | ⟨m, hm, hfi, hsz, ho, hst, _⟩
    · rw [h0]
      obtain ⟨k, hk, _⟩ := law11_DoomOutside_l0s false [] [] (by simp) [] 0 0 rfl (Nat.le_refl _)
      rw [Int.natCast_zero] at hk
      rw [hk]
      simp only [law11_alive_s, Option.bind_some]
      rfl
    · rw [hst]
      have hlen1 : m.size ≤ 100 := by rw [← Tm.len_row, ← hm]; exact hf.1
      have hsz2 := Tm.st_size m
      have hset := set_st hfi hsz ho
      have hlen : m.st.row.length ≤ 100 := by rw [Tm.len_row]; omega
      have hpos : 0 < m.st.row.length := by rw [Tm.len_row]; exact Tm.size_pos _
      have htr : tree m.st.row = some m.st.t := tree_row (Tm.t_ok _)
      have hact := doom_Active_s htr (by omega) hset
      have hwl := wts_len m.st.t
      have hsm : m.st.t.size = m.st.row.length := (Tm.len_row _).symm
      obtain ⟨n, hn1, hn2, hn3⟩ := law11_DoomOutside_l0s false m.st.row m.st.row (by omega) m.st.row 0 0 rfl (Nat.le_refl _)
      rw [Int.natCast_zero] at hn1
      have hne : ((m.st.row.length : Int) == 0) = false := by rw [beq_eq_false_iff_ne]; omega
      simp only [hn1, Option.bind_some, hne, cond_false]
      by_cases hn0 : n = 0
      · have hno := hn3 hn0
        rw [decide_eq_false (show ¬ ((n : Int) > 0) by omega)]
        simp only [cond_false, hact, Option.bind_some]
        have hp9 : ∀ i k, ∀ x ∈ m.st.t.path i k, x.2.2.hd.1 ≠ 9 ∧ x.2.2.hd.1 ≠ 7 := fun i k x hx => hno _ (path_in m.st.t i k (Tm.t_ok _) x hx).1
        have hbes : ∀ i k, besideP (m.st.t.path i k) = ([], false) := fun i k => Prod.ext (bes_no7 fun x hx => (hp9 i k x hx).2) (bes_no9 fun x hx => (hp9 i k x hx).1)
        have hfree : ∀ k ∈ (m.st.t.wts 0).map fun (k : Nat) => (k : Int), doom_Free m.st.row k = some true ∧ doom_Beside m.st.row k = some [] := fun k hk => by
          obtain ⟨j, hj, rfl⟩ := List.mem_map.1 hk
          have h1 := doom_Free_s htr (by omega) hset hj (fun _ => false) (fun x hx => by rw [hbes] at hx; cases hx) (by rw [hbes]; simp)
          have h2 := doom_Beside_s htr (by omega) hset hj
          rw [hbes] at h1 h2
          exact ⟨h1, h2⟩
        have hl2 := law11_DoomOutside_l2s false m.st.row _ (by rw [List.length_map]; omega) hfree _ 0 rfl
        rw [Int.natCast_zero] at hl2
        simp only [hl2, Option.bind_some, show Nat.beq 0 0 = true from rfl, cond_true]
        rw [ref03_One_s _ _ (by omega), Option.bind_some]
        have eb : ((9, ByteArray.empty, 0) :: m.st.row : List Nd) = (Tm.block m.st).row := rfl
        rw [eb]
        have hblen : (Tm.block m.st).row.length ≤ 1000000 := by rw [← eb]; simp; omega
        by_cases hbs : (Tm.block m.st).row ≠ [] ∧ settleR (Tm.block m.st).row = (Tm.block m.st).row
        · have htb : tree (Tm.block m.st).row = some (Tm.block m.st).t := tree_row (Tm.t_ok _)
          have hwb := wts_len (Tm.block m.st).t
          rw [show (Tm.block m.st).t.size = (Tm.block m.st).row.length from (Tm.len_row _).symm] at hwb
          have hfb : ∀ k ∈ ((Tm.block m.st).t.wts 0).map fun (k : Nat) => (k : Int), doom_Free (Tm.block m.st).row k = some false := fun k hk => by
            obtain ⟨j, hj, rfl⟩ := List.mem_map.1 hk
            obtain ⟨_, hp⟩ := block_path hj
            have hb : besideP ((Tm.block m.st).t.path 0 j) = ([], true) := by
              rw [hp, besideP, hbes]; rfl
            have h1 := doom_Free_s htb hblen hbs hj (fun _ => false) (fun x hx => by rw [hb] at hx; cases hx) (by rw [hb]; simp)
            rw [hb] at h1
            exact h1
          have hl4 := law11_DoomOutside_l4s false (Tm.block m.st).row _ (by rw [List.length_map]; omega) hfb _ 0 rfl
          rw [Int.natCast_zero] at hl4
          simp only [doom_Active_s htb hblen hbs, Option.bind_some, hl4, law11_alive_s]
          rfl
        · have hl4 := law11_DoomOutside_l4s false (Tm.block m.st).row [] (by simp) (fun k hk => by cases hk) [] 0 rfl
          rw [Int.natCast_zero] at hl4
          simp only [doom_Active_no hblen hbs, Option.bind_some, hl4, law11_alive_s]
          rfl
      · rw [decide_eq_true (show ((n : Int) > 0) by omega)]
        simp only [cond_true, law11_alive_s, Option.bind_some]
  · rw [decide_eq_false hf]
    simp only [Bool.not_false, cond_true, law11_alive_s, Option.bind_some]

theorem law11_DoomPar_l0s [Dfr] [HasOver] (l : List Nd) (b : Bool) (y : List Nd) (xs : List Nd) (hx : xs.length ≤ 1000000) : ∀ (r : List Nd) (i : Nat), xs.drop i = r → (law11_DoomPar_l0 l b y xs (xs.length : Int) (i : Int) = some (0, (l, b, y)) ∧ ∀ x ∈ r, x.1 ≠ 9) ∨ law11_DoomPar_l0 l b y xs (xs.length : Int) (i : Int) = some (1, (l, true, y))
  | [], i, h => by
    obtain ⟨h1, h2⟩ := drop_nil h
    rw [law11_DoomPar_l0_eq]
    simp only [h2, cond_false]
    exact .inl ⟨by trivial, fun x hx => by cases hx⟩
  | x :: r, i, h => by
    obtain ⟨hi, hd0, hix, hxx, hr, hle⟩ := drop_cons h
    rw [law11_DoomPar_l0_eq]
    simp only [hd0, hix, hxx, cond_true, w_succ (show i < 9223372036854775807 by omega)]
    by_cases h9 : x.1 = 9
    · rw [show (x.1 == 9) = true by rw [h9]; rfl]
      simp only [cond_true, law11_alive_s, Option.bind_some]
      exact .inr (by trivial)
    · rw [show (x.1 == 9) = false by rw [beq_eq_false_iff_ne]; exact h9]
      simp only [cond_false]
      rcases law11_DoomPar_l0s l b y xs hx r (i + 1) hr with ⟨h1, h2⟩ | h1
      · refine .inl ⟨h1, fun z hz => ?_⟩
        rcases List.mem_cons.1 hz with rfl | hz
        · exact h9
        · exact h2 z hz
      · exact .inr h1

theorem law11_DoomPar_l2s [Dfr] (b : Bool) (y l : List Nd) (at_ xs : List Int) (hx : xs.length ≤ 1000000) (hk : ∀ k ∈ xs, doom_Free l k = some true) : ∀ (r : List Int) (i : Nat), xs.drop i = r → law11_DoomPar_l2 b y l at_ xs (xs.length : Int) (i : Int) = some (0, (b, y, at_))
  | [], i, h => by
    obtain ⟨h1, h2⟩ := drop_nil h
    rw [law11_DoomPar_l2_eq]
    simp only [h2, cond_false]
  | x :: r, i, h => by
    obtain ⟨hi, hd0, hix, hxx, hr, hle⟩ := drop_cons h
    have k1 := hk x (List.mem_of_mem_drop (h ▸ List.mem_cons_self .. : x ∈ xs.drop i))
    rw [law11_DoomPar_l2_eq]
    simp only [hd0, hix, hxx, cond_true, w_succ (show i < 9223372036854775807 by omega), k1, Option.bind_some, Bool.not_true, cond_false]
    exact law11_DoomPar_l2s b y l at_ xs hx hk r (i + 1) hr

/-- A pair beside one that has thrown, in a block. -/
def dmP (c a : Tm) : Tm := .block (.par (.fin 2 c) a)
theorem dmP_wts [Dfr] (c a : Tm) : (dmP c a).t.wts 0 = a.t.wts (2 + (Tm.fin 2 c).t.size) := by
  show (if 0 < goK 9 then (T.n2 (nd 7) (Tm.fin 2 c).t a.t).wts 1 else []) = _
  rw [if_pos (by decide)]
  show (if 0 < goK 7 then (Tm.fin 2 c).t.wts 2 else []) ++ (if 1 < goK 7 then a.t.wts (1 + 1 + (Tm.fin 2 c).t.size) else []) = _
  rw [if_pos (by decide), if_pos (by decide)]
  rfl
theorem dmP_path [Dfr] {c a : Tm} {k : Nat} (hk : k ∈ (dmP c a).t.wts 0) : (dmP c a).t.path 0 k = (0, 0, (dmP c a).t) :: (1, 1, (Tm.par (.fin 2 c) a).t) :: a.t.path (2 + (Tm.fin 2 c).t.size) k := by
  rw [dmP_wts] at hk
  have := wts_range _ _ k hk
  show (T.n1 (nd 9) (T.n2 (nd 7) (Tm.fin 2 c).t a.t)).path 0 k = _
  rw [T.path_n1, if_neg (by omega), T.path_n2, if_neg (by omega), if_neg (by omega)]
  rfl

theorem law11_DoomPar_true [Dfr] [HasOver] (l c : List Nd) (hl : wfRow l) (hc : wfRow c) : law11_DoomPar l c = some true := by
  rw [law11_DoomPar_eq, law11_few_s, law11_few_s]
  simp only [law11_alive_s, Option.bind_some]
  by_cases hf : l.length ≤ 100 ∧ dep l ≤ 24
  · by_cases hg : c.length ≤ 100 ∧ dep c ≤ 24
    · rw [decide_eq_true hf, decide_eq_true hg]
      simp only [Bool.not_true, cond_false]
      rw [sort_On_s l true (by omega), sort_Of_s c (by omega)]
      simp only [Option.bind_some]
      by_cases hq : on (sOf l) = 4
      · rw [if_pos True.intro, decide_eq_true hq]
        simp only [Bool.not_true, cond_false]
        by_cases hp : sOf c = 1
        · rw [show (sOf c != 1) = false by rw [hp]; rfl, w64_id (by omega) (by omega)]
          simp only [cond_false]
          by_cases h90 : (l.length : Int) + (c.length : Int) > 90
          · rw [decide_eq_true h90]; rfl
          · rw [decide_eq_false h90]
            simp only [cond_false]
            obtain ⟨m, hm, hfi, hsz, hso⟩ := sOf_pos (l := l) (by intro h; rw [h] at hq; exact absurd hq (by decide))
            obtain ⟨cm, hcm, hcf, hcs, hcso⟩ := sOf_pos (l := c) (by rw [hp]; decide)
            have hqo : m.qo = true := by rw [Tm.so_qo, ← hso]; exact decide_eq_true hq
            have hpl : cm.pl = true := by rw [Tm.so_pl, ← hcso]; exact decide_eq_true hp
            have hms : m.size = l.length := by rw [hm, Tm.len_row]
            have hcs' : cm.size = c.length := by rw [hcm, Tm.len_row]
            have hst : settleR l = m.st.row := by rw [hm]; exact settleR_row hfi hsz (.inr hqo)
            rw [settle_Settle_s l (by omega), Option.bind_some, hst]
            have hsz2 := Tm.st_size m
            have hlen : m.st.row.length ≤ 100 := by rw [Tm.len_row]; omega
            have hpos : 0 < m.st.row.length := by rw [Tm.len_row]; exact Tm.size_pos _
            rcases law11_DoomPar_l0s c false m.st.row m.st.row (by omega) m.st.row 0 rfl with ⟨h1, hno9⟩ | h1
            · rw [Int.natCast_zero] at h1
              simp only [h1, Option.bind_some, show Nat.beq 0 0 = true from rfl, cond_true]
              rw [ref03_One_s _ _ (by omega), Option.bind_some, ref03_Two_s _ _ _ (by simp; omega) (by omega), Option.bind_some, ref03_One_s _ _ (by simp; omega), Option.bind_some]
              have e : ((9, ByteArray.empty, 0) :: (7, ByteArray.empty, 0) :: ((14, ByteArray.empty, 2) :: c ++ m.st.row) : List Nd) = (dmP cm m.st).row := by rw [hcm]; rfl
              rw [e]
              have hdsz : (dmP cm m.st).size ≤ 200 := by simp only [dmP, Tm.size_block, Tm.size_par, Tm.size_fin]; omega
              have hdf : (dmP cm m.st).fine := ⟨⟨by decide, hcf⟩, Tm.st_fine hfi⟩
              have hdo : (dmP cm m.st).po = true := by
                have h2 := Tm.st_qo hqo
                simp only [dmP, Tm.po, Tm.qo, hpl, h2, Bool.and_self, Bool.or_true, Bool.true_or]
              have hne : ((m.st.row.length : Int) == 0) = false := by rw [beq_eq_false_iff_ne]; omega
              rw [settle_Settle_s _ (by rw [Tm.len_row]; omega), settleR_row hdf hdsz (.inl hdo)]
              have hdsz3 := Tm.st_size (dmP cm m.st)
              have hset := set_st hdf hdsz (.inl hdo)
              have hact := doom_Active_s (l := (dmP cm m.st).st.row) (tree_row (Tm.t_ok (dmP cm m.st).st)) (by rw [Tm.len_row]; omega) hset
              have hix : ix m.st.row 0 = m.st.t.hd := by show ix m.st.t.row 0 = _; cases m.st.t <;> rfl
              simp only [Option.bind_some, hact, hne, cond_false, decide_eq_true (show (m.st.row.length : Int) > 0 by omega), cond_true, idxOk_zero hpos, hix]
              by_cases h14 : m.st.t.hd.1 = 14
              · rw [h14]; rfl
              · have e14 : (m.st.t.hd.1 == 14) = false := by rw [beq_eq_false_iff_ne]; exact h14
                rw [e14]
                simp only [cond_false]
                have hnf : m.st.isFin = false := by
                  cases hx : m.st with
                  | fin s d => rw [hx] at h14; exact absurd rfl h14
                  | _ => rfl
                have hno : m.st.isOver = false := by
                  have h2 := Tm.st_qo hqo
                  cases hx : m.st with
                  | over s => rw [hx] at h2; simp [Tm.qo] at h2
                  | _ => rfl
                have hds : (dmP cm m.st).st = dmP cm m.st := by
                  unfold dmP
                  rw [Tm.st_block, Tm.st_par, Tm.st_fin, Tm.st_st]
                  have : Tm.par' (Tm.fin 2 cm) m.st = Tm.par (Tm.fin 2 cm) m.st := by
                    cases hx : m.st with
                    | fin s d => rw [hx] at hnf; cases hnf
                    | _ => rfl
                  rw [this]; rfl
                rw [hds] at hset hact ⊢
                have htr : tree (dmP cm m.st).row = some (dmP cm m.st).t := tree_row (Tm.t_ok _)
                have hlen2 : (dmP cm m.st).row.length ≤ 200 := by rw [Tm.len_row]; exact hdsz
                have hwl := wts_len (dmP cm m.st).t
                rw [show (dmP cm m.st).t.size = (dmP cm m.st).row.length from (Tm.len_row _).symm] at hwl
                have hfree : ∀ k ∈ ((dmP cm m.st).t.wts 0).map fun (k : Nat) => (k : Int), doom_Free (dmP cm m.st).row k = some true := fun k hk => by
                  obtain ⟨j, hj, rfl⟩ := List.mem_map.1 hk
                  have hp9 : ∀ x ∈ m.st.t.path (2 + (Tm.fin 2 cm).t.size) j, x.2.2.hd.1 ≠ 9 := fun x hx => hno9 _ (path_in m.st.t _ _ (Tm.t_ok _) x hx).1
                  have hb0 := bes_no9 hp9
                  have hkid : (Tm.par (.fin 2 cm) m.st).t.kid (1 - 1) = (Tm.fin 2 cm).row := rfl
                  have hb : besideP ((dmP cm m.st).t.path 0 j) = ((besideP (m.st.t.path (2 + (Tm.fin 2 cm).t.size) j)).1 ++ [(Tm.fin 2 cm).row], true) := by
                    have h7 := bes7 (x := (1, 1, (Tm.par (.fin 2 cm) m.st).t)) hb0 rfl
                    rw [dmP_path hj, bes9 (x := (0, 0, (dmP cm m.st).t)) (by rw [h7]) rfl, h7]
                    rfl
                  have hdm : ∀ x ∈ (besideP ((dmP cm m.st).t.path 0 j)).1, doom_Doomed x = some ((doom_Doomed x).getD false) := fun x hx => by
                    obtain ⟨y, hy, h7, rfl⟩ := bes_mem hx
                    obtain ⟨_, hc2⟩ := path_in (dmP cm m.st).t 0 j (Tm.t_ok _) y hy
                    obtain ⟨d, d1, d2, d3⟩ := hc2 h7
                    have hds2 : (dmP cm m.st).t.size = (dmP cm m.st).row.length := (Tm.len_row _).symm
                    rw [d3, doom_Doomed_s (tree_row d1) (by rw [T.len_row]; omega)]
                    rfl
                  have hpl2 : (besideP ((dmP cm m.st).t.path 0 j)).1.length ≤ 1000000 := by
                    have h1 : ∀ p : List (Nat × Nat × T), (besideP p).1.length ≤ p.length := fun p => by
                      induction p with
                      | nil => simp [besideP]
                      | cons x p ih =>
                        rw [besideP]
                        split
                        · simp; omega
                        · split
                          · simp; omega
                          · simp; omega
                    have h2 := h1 ((dmP cm m.st).t.path 0 j)
                    have h3 := T.path_len (dmP cm m.st).t 0 j
                    rw [show (dmP cm m.st).t.size = (dmP cm m.st).row.length from (Tm.len_row _).symm] at h3
                    omega
                  rw [doom_Free_s htr (by omega) hset hj _ hdm hpl2, hb]
                  congr 1
                  simp only [Bool.not_true, Bool.false_or, List.any_append, List.any_cons, List.any_nil, Bool.or_false]
                  have hfs : doom_Doomed (Tm.fin 2 cm).row = some true := by
                    rw [doom_Doomed_s (l := (Tm.fin 2 cm).row) (tree_row (Tm.t_ok (Tm.fin 2 cm))) (by rw [Tm.len_row, Tm.size_fin]; omega)]
                    have : (Tm.fin 2 cm).row ≠ [] ∧ settleR (Tm.fin 2 cm).row = (Tm.fin 2 cm).row := by
                      refine ⟨Tm.row_ne _, ?_⟩
                      rw [settleR_row (m := Tm.fin 2 cm) ⟨by decide, hcf⟩ (by rw [Tm.size_fin]; omega) (.inr (by simp only [Tm.qo]; exact hpl)), Tm.st_fin]
                    rw [decide_eq_true this]; rfl
                  rw [hfs]
                  simp
                have hl2 := law11_DoomPar_l2s false m.st.row (dmP cm m.st).row (((dmP cm m.st).t.wts 0).map fun (k : Nat) => (k : Int)) (((dmP cm m.st).t.wts 0).map fun (k : Nat) => (k : Int)) (by rw [List.length_map]; omega) hfree _ 0 rfl
                rw [Int.natCast_zero] at hl2
                have hact2 := doom_Active_s (l := m.st.row) (tree_row (Tm.t_ok m.st)) (by omega) (set_st hfi hsz (.inr hqo))
                simp only [hl2, Option.bind_some, show Nat.beq 0 0 = true from rfl, cond_true, hact2]
                have hlw : ((dmP cm m.st).t.wts 0).length = (m.st.t.wts 0).length := by
                  have := wts_shift m.st.t 0 (2 + (Tm.fin 2 cm).t.size)
                  rw [Nat.zero_add] at this
                  rw [dmP_wts, this, List.length_map]
                have hwait : m.st.t.wts 0 ≠ [] := by
                  rcases Tm.settled_ends m.st (Tm.settled_st m) (Tm.st_fine hfi) (.inr (Tm.st_qo hqo)) with h | h | h | h
                  · exact (Tm.wts_waits m.st 0).2 h
                  · rw [hno] at h; cases h
                  · rw [hnf] at h; cases h
                  · obtain ⟨k, k1, k2, _⟩ := Tm.stuck_given h
                    have : m.st.row.getD k default ∈ m.st.row := by
                      rw [List.getD_eq_getElem?_getD, List.getElem?_eq_getElem (by omega)]
                      exact List.getElem_mem _
                    exact absurd k2 (hno9 _ this)
                have : 0 < (m.st.t.wts 0).length := List.length_pos_iff.2 hwait
                simp only [List.length_map, hlw, beq_self_eq_true, cond_true]
                rw [decide_eq_true (show ((m.st.t.wts 0).length : Int) > 0 by omega)]
            · rw [Int.natCast_zero] at h1
              simp only [h1, Option.bind_some]
              rfl
        · rw [show (sOf c != 1) = true by rw [bne_iff_ne]; exact hp]; rfl
      · rw [if_pos True.intro, decide_eq_false hq]; rfl
    · rw [decide_eq_true hf, decide_eq_false hg]; rfl
  · rw [decide_eq_false hf]; rfl
end Go.Proofs.YtdbabacjmkfkgaaDoor.Sv
