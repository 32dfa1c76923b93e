/- Parts of the proofs: what they lean on. Conditions: none. -/
import Derived.Test.YtonhmholnneaaaaGreatStmtParsesP1
section
namespace Go.Proofs.YtonhmholnneaaaaGreat
set_option linter.unusedVariables false
set_option linter.unusedSimpArgs false
set_option maxRecDepth 10000
abbrev Got := S_ref02_got
def RefR (r : PR) (o : Option Got) : Prop := match r with
  | .ok x tu => o = some ⟨x, (tu : Int), 0, 0⟩
  | .bad e a => e ≠ 0 ∧ ∃ X t, o = some ⟨X, t, e, a⟩
def finR : LR ((List Nd) × Int × Int × Int) Got → Option Got
  | .out (a, b, c, d) => some ⟨a, b, c, d⟩
  | .ret v => some v
def RefM (T : Nat) (l : List Tk) (inn i : Nat) (r : PR) : Md → Prop
  | .fl f => f ≤ 5 → ∀ n, 8 * (l.length - i) + (6 - f) + T + 60 ≤ n → RefR r (m_ref02_floor n l (i : Int) (inn : Int) (f : Int))
  | .lp f x => f < 5 → x.length ≤ i → ∀ n k, 8 * (l.length - i) + (6 - (f + 1)) + T + 60 ≤ n → l.length - i < k → RefR r ((ref02_floor_L0 n (m_ref02_floor n) l (inn : Int) (f : Int) k x (i : Int) 0 0).bind finR)
theorem err_ne (l : List Tk) (i : Nat) : errF l i ≠ 0 := by unfold errF; split <;> decide
theorem refR_fail (n : Nat) (l : List Tk) (i : Nat) (hl : l.length < 1000000) : RefR (badF l i) (m_ref02_fail (n + 2) l (i : Int)) := ⟨err_ne l i, _, _, fail_r n l i hl⟩
theorem floor5 (n : Nat) (l : List Tk) (i inn : Int) : m_ref02_floor (n + 1) l i inn 5 = m_ref02_prim n l i inn := by
  rw [m_ref02_floor]
  simp
theorem refR_bind (r : PR) (o : Option Got) (h : RefR r o) : RefR r (o.bind fun y => some y) := by
  cases o <;> exact h
theorem wrap2' (n : Nat) (h : n < 4611686018427387904) : IntKind.i64.wrap ((n : Int) + 2) = ((n + 2 : Nat) : Int) := by rw [wrap64 (by omega)]; omega
theorem wrap3' (n : Nat) (h : n < 4611686018427387904) : IntKind.i64.wrap ((n : Int) + 3) = ((n + 3 : Nat) : Int) := by rw [wrap64 (by omega)]; omega
theorem implR {T : Nat} {l : List Tk} (hl : l.length < 100000) (hT : ∀ t ∈ l, t.f_Text.length ≤ T) (hT2 : T < 100000) {md : Md} {inn i : Nat} {r : PR} (h : PE l md inn i r) : i ≤ l.length → inn ≤ 30 → RefM T l inn i r md := by
  have nm : ∀ (n i : Nat) (t : Tk), l[i]? = some t → T + 45 ≤ n → m_ref01_Name n t.f_Text = some (nameB t.f_Text) := fun n i t ht hn => rname_m n _ (by have := hT t (List.mem_of_getElem? ht); omega) (by have := hT t (List.mem_of_getElem? ht); omega)
  induction h with
  | @deep inn i t h1 h2 h3 =>
    intro hi hn _ n hf
    have hlt := some_lt h3
    obtain ⟨n, rfl⟩ : ∃ j, n = j + 10 := ⟨n - 10, by omega⟩
    rw [show ((5 : Nat) : Int) = 5 from rfl, floor5, m_ref02_prim, bif_not (by omega), idx_some h3, Option.bind_some, is_r, is_r, Option.bind_some]
    refine ⟨by decide, [], 0, ?_⟩
    rcases h1 with h1 | h1
    · have h0 : isSg l i [40] = false := sign_one h1 (by decide)
      rw [h0, h1]
      simp only [cond_false, Option.bind_some, cond_true, bif_decide (show (30 : Int) ≤ (inn : Int) by omega)]
    · rw [h1]
      simp only [cond_true, bif_decide (show (30 : Int) ≤ (inn : Int) by omega)]
  | @not_ok inn i tu t x h1 h2 h3 h4 ih =>
    intro hi hn _ n hf
    have hlt := some_lt h3
    have hx := PE_ok h4 (by omega); dsimp only at hx
    obtain ⟨n, rfl⟩ : ∃ j, n = j + 10 := ⟨n - 10, by omega⟩
    have e : m_ref02_floor (n + 9) l ((i + 1 : Nat) : Int) ((inn + 1 : Nat) : Int) 5 = some ⟨x, (tu : Int), 0, 0⟩ := ih (by omega) (by omega) (by omega) (n + 9) (by omega)
    rw [floor5] at e
    have h0 : isSg l i [40] = false := sign_one h1 (by decide)
    rw [show ((5 : Nat) : Int) = 5 from rfl, floor5, m_ref02_prim, bif_not (by omega), idx_some h3, Option.bind_some, is_r, is_r, Option.bind_some, h0, h1, wrap_one i (by omega), wrap_one inn (by omega), e]
    simp only [cond_false, Option.bind_some, cond_true, bif_not (show ¬ (30 : Int) ≤ (inn : Int) by omega), beq_self_eq_true, List.length_singleton, bif_decide (show (1 + x.length) * 57 ≤ 140737488355328 by omega)]
    rfl
  | @not_bad inn i e a h1 h2 h4 ih =>
    intro hi hn _ n hf
    have hlt := isS_lt h1
    obtain ⟨n, rfl⟩ : ∃ j, n = j + 10 := ⟨n - 10, by omega⟩
    obtain ⟨hne, X, tt, e1⟩ := ih (by omega) (by omega) (by omega) (n + 9) (by omega)
    rw [show ((5 : Nat) : Int) = 5 from rfl, floor5] at e1
    have h0 : isSg l i [40] = false := sign_one h1 (by decide)
    have hb : (e == 0) = false := by rw [beq_eq_false_iff_ne]; exact hne
    rw [show ((5 : Nat) : Int) = 5 from rfl, floor5, m_ref02_prim, bif_not (by omega), idx_get hlt, Option.bind_some, is_r, is_r, Option.bind_some, h0, h1, wrap_one i (by omega), wrap_one inn (by omega), e1]
    simp only [cond_false, Option.bind_some, cond_true, bif_not (show ¬ (30 : Int) ≤ (inn : Int) by omega), hb]
    exact ⟨hne, _, _, rfl⟩
  | @par_ok inn i tu x h1 h2 h3 h4 ih =>
    intro hi hn _ n hf
    have hlt := isS_lt h1
    have hx := PE_ok h3 (by omega); dsimp only at hx
    obtain ⟨n, rfl⟩ : ∃ j, n = j + 10 := ⟨n - 10, by omega⟩
    have e : m_ref02_floor (n + 8) l ((i + 1 : Nat) : Int) ((inn + 1 : Nat) : Int) 0 = some ⟨x, (tu : Int), 0, 0⟩ := ih (by omega) (by omega) (by omega) (n + 8) (by omega)
    have h0 : isSg l i [33] = false := sign_one h1 (by decide)
    rw [show ((5 : Nat) : Int) = 5 from rfl, floor5, m_ref02_prim, bif_not (by omega), idx_get hlt, Option.bind_some, is_r, is_r, Option.bind_some, h0, h1, wrap_one i (by omega), wrap_one inn (by omega), e]
    simp only [cond_false, Option.bind_some, cond_true, bif_not (show ¬ (30 : Int) ≤ (inn : Int) by omega), beq_self_eq_true, is_r, h4, wrap_one tu (show tu < 4611686018427387904 by omega)]
    rfl
  | @par_bad inn i e a h1 h2 h3 ih =>
    intro hi hn _ n hf
    have hlt := isS_lt h1
    obtain ⟨n, rfl⟩ : ∃ j, n = j + 10 := ⟨n - 10, by omega⟩
    obtain ⟨hne, X, tt, e1⟩ := ih (by omega) (by omega) (by omega) (n + 8) (by omega)
    rw [show ((0 : Nat) : Int) = 0 from rfl] at e1
    have h0 : isSg l i [33] = false := sign_one h1 (by decide)
    have hb : (e == 0) = false := by rw [beq_eq_false_iff_ne]; exact hne
    rw [show ((5 : Nat) : Int) = 5 from rfl, floor5, m_ref02_prim, bif_not (by omega), idx_get hlt, Option.bind_some, is_r, is_r, Option.bind_some, h0, h1, wrap_one i (by omega), wrap_one inn (by omega), e1]
    simp only [cond_false, Option.bind_some, cond_true, bif_not (show ¬ (30 : Int) ≤ (inn : Int) by omega), hb]
    exact ⟨hne, _, _, rfl⟩
  | @par_open inn i tu x h1 h2 h3 h4 ih =>
    intro hi hn _ n hf
    have hlt := isS_lt h1
    have hx := PE_ok h3 (by omega); dsimp only at hx
    obtain ⟨n, rfl⟩ : ∃ j, n = j + 10 := ⟨n - 10, by omega⟩
    have e : m_ref02_floor (n + 8) l ((i + 1 : Nat) : Int) ((inn + 1 : Nat) : Int) 0 = some ⟨x, (tu : Int), 0, 0⟩ := ih (by omega) (by omega) (by omega) (n + 8) (by omega)
    have h0 : isSg l i [33] = false := sign_one h1 (by decide)
    rw [show ((5 : Nat) : Int) = 5 from rfl, floor5, m_ref02_prim, bif_not (by omega), idx_get hlt, Option.bind_some, is_r, is_r, Option.bind_some, h0, h1, wrap_one i (by omega), wrap_one inn (by omega), e]
    simp only [cond_false, Option.bind_some, cond_true, bif_not (show ¬ (30 : Int) ≤ (inn : Int) by omega), beq_self_eq_true, is_r, h4]
    exact refR_bind _ _ (refR_fail (n + 6) l tu (by omega))
  | @num inn i t h1 h2 =>
    intro hi hn _ n hf
    have hlt := some_lt h2
    obtain ⟨n, rfl⟩ : ∃ j, n = j + 10 := ⟨n - 10, by omega⟩
    have hk : t.f_Kind = 2 := by simpa [isK, h2] using h1
    have h3 : isSg l i [33] = false := by simp [isSg, h2, hk]
    have h4 : isSg l i [40] = false := by simp [isSg, h2, hk]
    rw [show ((5 : Nat) : Int) = 5 from rfl, floor5, m_ref02_prim, bif_not (by omega), idx_some h2, Option.bind_some, is_r, is_r, Option.bind_some, h3, h4, wrap_one i (by omega)]
    simp only [cond_false, Option.bind_some, cond_true, hk, beq_self_eq_true]
    rfl
  | @reg inn i t h1 h2 h3 =>
    intro hi hn _ n hf
    have hlt := some_lt h3
    obtain ⟨n, rfl⟩ : ∃ j, n = j + 10 := ⟨n - 10, by omega⟩
    have hk : t.f_Kind = 1 ∧ nameB t.f_Text = true := by simpa [isN, h3] using h1
    have h4 : isSg l i [33] = false := by simp [isSg, h3, hk.1]
    have h5 : isSg l i [40] = false := by simp [isSg, h3, hk.1]
    rw [show ((5 : Nat) : Int) = 5 from rfl, floor5, m_ref02_prim, bif_not (by omega), idx_some h3, Option.bind_some, is_r, is_r, Option.bind_some, h4, h5, wrap_one i (by omega), nm _ i t h3 (by omega), hk.2, is_r, h2]
    simp only [cond_false, Option.bind_some, cond_true, hk.1]
    rfl
  | @of inn i t u h1 h2 h3 h4 h5 =>
    intro hi hn _ n hf
    have hlt := some_lt h4
    have hlt2 := some_lt h5
    obtain ⟨n, rfl⟩ : ∃ j, n = j + 10 := ⟨n - 10, by omega⟩
    have hk : t.f_Kind = 1 ∧ nameB t.f_Text = true := by simpa [isN, h4] using h1
    have hu : u.f_Kind = 1 ∧ nameB u.f_Text = true := by simpa [isN, h5] using h3
    have h6 : isSg l i [33] = false := by simp [isSg, h4, hk.1]
    have h7 : isSg l i [40] = false := by simp [isSg, h4, hk.1]
    rw [show ((5 : Nat) : Int) = 5 from rfl, floor5, m_ref02_prim, bif_not (by omega), idx_some h4, Option.bind_some, is_r, is_r, Option.bind_some, h6, h7, wrap_one i (by omega), wrap2' i (by omega), wrap3' i (by omega), nm _ i t h4 (by omega), hk.2, is_r, h2, idx_some h5]
    simp only [cond_false, Option.bind_some, cond_true, hk.1, hu.1, nm (n + 8) (i + 2) u h5 (by omega), hu.2, bif_not (show ¬ ((l.length : Nat) : Int) ≤ ((i + 2 : Nat) : Int) by omega)]
    rfl
  | @of_bad inn i h1 h2 h3 =>
    intro hi hn _ n hf
    have hlt := isN_lt h1
    obtain ⟨t, h4⟩ : ∃ t, l[i]? = some t := ⟨_, List.getElem?_eq_getElem hlt⟩
    obtain ⟨n, rfl⟩ : ∃ j, n = j + 10 := ⟨n - 10, by omega⟩
    have hk : t.f_Kind = 1 ∧ nameB t.f_Text = true := by simpa [isN, h4] using h1
    have h6 : isSg l i [33] = false := by simp [isSg, h4, hk.1]
    have h7 : isSg l i [40] = false := by simp [isSg, h4, hk.1]
    rw [show ((5 : Nat) : Int) = 5 from rfl, floor5, m_ref02_prim, bif_not (by omega), idx_some h4, Option.bind_some, is_r, is_r, Option.bind_some, h6, h7, wrap_one i (by omega), wrap2' i (by omega), wrap3' i (by omega), nm _ i t h4 (by omega), hk.2, is_r, h2]
    simp only [cond_false, Option.bind_some, cond_true, hk.1]
    have hfail := refR_bind _ _ (refR_fail (n + 6) l (i + 2) (by omega))
    by_cases hi2 : i + 2 < l.length
    · obtain ⟨u, h5⟩ : ∃ u, l[i + 2]? = some u := ⟨_, List.getElem?_eq_getElem hi2⟩
      have hu : ((u.f_Kind == 1) && nameB u.f_Text) = false := by simpa [isN, h5] using h3
      simp only [bif_not (show ¬ ((l.length : Nat) : Int) ≤ ((i + 2 : Nat) : Int) by omega), idx_some h5, Option.bind_some, nm (n + 8) (i + 2) u h5 (by omega)]
      by_cases hk1 : u.f_Kind = 1
      · rw [hk1] at hu ⊢
        have hb : nameB u.f_Text = false := by simpa using hu
        simp only [hb, cond_false, bne_self_eq_false]
        exact hfail
      · have : (u.f_Kind != 1) = true := by rw [bne_iff_ne]; exact hk1
        simp only [this, cond_true]
        exact hfail
    · simp only [bif_decide (show ((l.length : Nat) : Int) ≤ ((i + 2 : Nat) : Int) by omega)]
      exact hfail
  | @no inn i h1 h2 h3 h4 =>
    intro hi hn _ n hf
    obtain ⟨n, rfl⟩ : ∃ j, n = j + 10 := ⟨n - 10, by omega⟩
    have hfail := refR_bind _ _ (refR_fail (n + 6) l i (by omega))
    rw [show ((5 : Nat) : Int) = 5 from rfl, floor5, m_ref02_prim]
    by_cases hi1 : i < l.length
    · obtain ⟨t, h5⟩ : ∃ t, l[i]? = some t := ⟨_, List.getElem?_eq_getElem hi1⟩
      have hk2 : (t.f_Kind == 2) = false := by simpa [isK, h5] using h3
      have hu : ((t.f_Kind == 1) && nameB t.f_Text) = false := by simpa [isN, h5] using h4
      rw [bif_not (by omega), idx_some h5, Option.bind_some, is_r, is_r, Option.bind_some, h1, h2]
      simp only [cond_false, Option.bind_some, hk2, nm (n + 8) i t h5 (by omega)]
      by_cases hk1 : t.f_Kind = 1
      · rw [hk1] at hu ⊢
        have hb : nameB t.f_Text = false := by simpa using hu
        simp only [hb, cond_false, bne_self_eq_false]
        exact hfail
      · have : (t.f_Kind != 1) = true := by rw [bne_iff_ne]; exact hk1
        simp only [this, cond_true]
        exact hfail
    · rw [bif_decide (by omega)]
      exact hfail
  | @fl_bad f inn i e a h1 h2 ih =>
    intro hi hn hf5 n hf
    obtain ⟨n, rfl⟩ : ∃ j, n = j + 1 := ⟨n - 1, by omega⟩
    obtain ⟨hne, X, tt, e1⟩ := ih hi hn (by omega) n (by omega)
    have hb : (e == 0) = false := by rw [beq_eq_false_iff_ne]; exact hne
    rw [m_ref02_floor, show (((f : Nat) : Int) == 5) = false by rw [beq_eq_false_iff_ne]; omega, cond_false, wrap_one f (by omega), e1, Option.bind_some]
    obtain ⟨n, rfl⟩ : ∃ j, n = j + 1 := ⟨n - 1, by omega⟩
    simp only [ref02_floor_L0, hb, cond_false, Option.bind_some]
    exact ⟨hne, _, _, rfl⟩
  | @fl_ok f inn i tu x r h1 h2 h3 ih1 ih2 =>
    intro hi hn hf5 n hf
    have hx := PE_ok h2 hi; dsimp only at hx
    obtain ⟨n, rfl⟩ : ∃ j, n = j + 1 := ⟨n - 1, by omega⟩
    have e : m_ref02_floor n l (i : Int) (inn : Int) ((f + 1 : Nat) : Int) = some ⟨x, (tu : Int), 0, 0⟩ := ih1 hi hn (by omega) n (by omega)
    rw [m_ref02_floor, show (((f : Nat) : Int) == 5) = false by rw [beq_eq_false_iff_ne]; omega, cond_false, wrap_one f (by omega), e, Option.bind_some]
    exact ih2 (by omega) hn (by omega) (by omega) n n (by omega) (by omega)
  | @lp_stop f inn i x h1 =>
    intro hi hn hf5 hxl n k hf hk
    obtain ⟨k, rfl⟩ : ∃ j, k = j + 1 := ⟨k - 1, by omega⟩
    obtain ⟨n, rfl⟩ : ∃ j, n = j + 1 := ⟨n - 1, by omega⟩
    rw [ref02_floor_L0, beq_self_eq_true, cond_true]
    have hfl := floors_r (n := n) hf5
    cases hm : m_ref02_floors (n + 1) with
    | none => rw [hm] at hfl; cases hfl
    | some y =>
      rw [hm] at hfl
      simp only [Option.bind_some] at hfl ⊢
      rw [hfl, Option.bind_some, which_r _ _ _ _ (by omega), h1, Option.bind_some, beq_self_eq_true, cond_true]
      rfl
  | @lp_bad f inn i x e a h1 h2 h3 ih =>
    intro hi hn hf5 hxl n k hf hk
    have hlt := pick_lt h2
    obtain ⟨k, rfl⟩ : ∃ j, k = j + 1 := ⟨k - 1, by omega⟩
    obtain ⟨hne, X, tt, e1⟩ := ih (by omega) hn (by omega) n (by omega)
    obtain ⟨n, rfl⟩ : ∃ j, n = j + 1 := ⟨n - 1, by omega⟩
    have hb : (e != 0) = true := by rw [bne_iff_ne]; exact hne
    rw [ref02_floor_L0, beq_self_eq_true, cond_true]
    have hfl := floors_r (n := n) hf5
    cases hm : m_ref02_floors (n + 1) with
    | none => rw [hm] at hfl; cases hfl
    | some y =>
      rw [hm] at hfl
      simp only [Option.bind_some] at hfl ⊢
      rw [hfl, Option.bind_some, which_r _ _ _ _ (by omega), Option.bind_some, show (opPick l i (opsF f) == 0) = false by rw [beq_eq_false_iff_ne]; exact h2, cond_false, wrap_one i (by omega), wrap_one f (by omega), e1, Option.bind_some]
      simp only [hb, cond_true]
      exact ⟨hne, _, _, rfl⟩
  | @lp_once inn i tu x y t h1 h2 h3 ih =>
    intro hi hn hf5 hxl n k hf hk
    have hlt := some_lt h2
    have hx := PE_ok h3 (by omega); dsimp only at hx
    obtain ⟨k, rfl⟩ : ∃ j, k = j + 1 := ⟨k - 1, by omega⟩
    have e : m_ref02_floor n l ((i + 1 : Nat) : Int) (inn : Int) ((3 : Nat) : Int) = some ⟨y, (tu : Int), 0, 0⟩ := ih (by omega) hn (by omega) n (by omega)
    obtain ⟨n, rfl⟩ : ∃ j, n = j + 1 := ⟨n - 1, by omega⟩
    rw [ref02_floor_L0, beq_self_eq_true, cond_true]
    have hfl := floors_r (n := n) hf5
    cases hm : m_ref02_floors (n + 1) with
    | none => rw [hm] at hfl; cases hfl
    | some yy =>
      rw [hm] at hfl
      simp only [Option.bind_some] at hfl ⊢
      rw [hfl, Option.bind_some, which_r _ _ _ _ (by omega), Option.bind_some, show (opPick l i (opsF 2) == 0) = false by rw [beq_eq_false_iff_ne]; exact h1, cond_false, wrap_one i (by omega), wrap_one 2 (by omega), e, Option.bind_some, idx_some h2]
      simp only [bne_self_eq_false, cond_false, Option.bind_some, List.length_singleton, List.length_append]
      rw [bif_decide (by omega), bif_decide (by omega), show (((2 : Nat) : Int) == 2) = true from rfl, cond_true]
      show some _ = some _
      simp
  | @lp_go f inn i tu x y t r h1 h2 h3 h4 h5 h6 ih1 ih2 =>
    intro hi hn hf5 hxl n k hf hk
    have hlt := some_lt h4
    have hx := PE_ok h5 (by omega); dsimp only at hx
    obtain ⟨k, rfl⟩ : ∃ j, k = j + 1 := ⟨k - 1, by omega⟩
    have e : m_ref02_floor n l ((i + 1 : Nat) : Int) (inn : Int) ((f + 1 : Nat) : Int) = some ⟨y, (tu : Int), 0, 0⟩ := ih1 (by omega) hn (by omega) n (by omega)
    have h7 := ih2 (by omega) hn hf5 (by simp; omega) n k (by omega) (by omega)
    obtain ⟨n, rfl⟩ : ∃ j, n = j + 1 := ⟨n - 1, by omega⟩
    rw [ref02_floor_L0, beq_self_eq_true, cond_true]
    have hfl := floors_r (n := n) hf5
    cases hm : m_ref02_floors (n + 1) with
    | none => rw [hm] at hfl; cases hfl
    | some yy =>
      rw [hm] at hfl
      simp only [Option.bind_some] at hfl ⊢
      rw [hfl, Option.bind_some, which_r _ _ _ _ (by omega), Option.bind_some, show (opPick l i (opsF f) == 0) = false by rw [beq_eq_false_iff_ne]; exact h3, cond_false, wrap_one i (by omega), wrap_one f (by omega), e, Option.bind_some, idx_some h4]
      simp only [bne_self_eq_false, cond_false, Option.bind_some, List.length_singleton, List.length_append]
      rw [bif_decide (by omega), bif_decide (by omega), show (((f : Nat) : Int) == 2) = false by rw [beq_eq_false_iff_ne]; omega, cond_false]
      simpa using h7
end Go.Proofs.YtonhmholnneaaaaGreat
end
section
namespace Go.Proofs.YtonhmholnneaaaaGreat
set_option linter.unusedVariables false
set_option linter.unusedSimpArgs false
set_option maxRecDepth 10000
theorem dep_flat : ∀ t : Tr, t.dep ≤ t.flat.length
  | .leaf x => by simp [Tr.dep, Tr.flat]
  | .un x t => by have := dep_flat t; simp [Tr.dep, Tr.flat]; omega
  | .bin x t u => by have := dep_flat t; have := dep_flat u; simp [Tr.dep, Tr.flat]; omega
theorem parse_ref {T : Nat} {l : List Tk} (hl : l.length < 100000) (hk : ∀ t ∈ l, TkOk t) (hT : ∀ t ∈ l, t.f_Text.length ≤ T) (hT2 : T < 100000) {n i : Nat} {r : PR} (hr : PE l (.fl 0) 0 i r) (hi : i ≤ l.length) (hn : 12 * l.length + T + 200 ≤ n) :
    m_ref02_Parse n l (i : Int) = some (parseR l i r) := by
  obtain ⟨n, rfl⟩ : ∃ j, n = j + 1 := ⟨n - 1, by omega⟩
  have h := implR hl hT hT2 hr hi (by omega) (by omega) n (by omega)
  rw [m_ref02_Parse, bif_not (by omega)]
  cases r with
  | bad e a =>
    obtain ⟨hne, X, t, e1⟩ := h
    rw [show ((0 : Nat) : Int) = 0 from rfl] at e1
    rw [e1, Option.bind_some]
    dsimp only
    rw [show (e != 0) = true by simpa using hne]; rfl
  | ok x tu =>
    have hx := PE_ok hr hi; dsimp only at hx
    obtain ⟨⟨t, t1, t2⟩, _⟩ := (PE_good hk hr : GoodX x)
    have h : m_ref02_floor n l (i : Int) 0 0 = some ⟨x, (tu : Int), 0, 0⟩ := h
    have ht : l[i]? = some (l[i]'(by omega)) := List.getElem?_eq_getElem (by omega)
    have hp : placeF l i = (l[i]'(by omega)).f_At := by unfold placeF; rw [ht]
    subst t2
    have hdl := dep_flat t
    have hd : m_ref02_deep n t.flat 0 = some (t.dep : Int) := by
      have := deep_tr t n [] [] t1 (by simp; omega) (by simp; omega)
      simpa using this
    have hd2 : (depF t.flat (0, [])).1 = (t.dep : Int) := by
      have := depF_tr t [] 0 [] t1 (by omega)
      rw [List.append_nil] at this
      rw [this]; simp [depF]
    rw [h, Option.bind_some, hd, idx_some ht]
    simp only [bne_self_eq_false, cond_false, Option.bind_some, parseR, hp, hd2]
    by_cases c : 30 < (t.dep : Int)
    · rw [bif_decide c, if_pos c]
    · rw [bif_not c, if_neg c]
      by_cases c2 : 200 < t.flat.length
      · rw [bif_decide (by omega), if_pos c2]
      · rw [bif_not (by omega), if_neg c2]
theorem parse_prog {T : Nat} {l : List Tk} (hl : l.length < 100000) (hk : ∀ t ∈ l, TkOk t) (hT : ∀ t ∈ l, t.f_Text.length ≤ T) (hT2 : T < 100000) {n i : Nat} {r : PR} (hr : PE l (.fl 0) 0 i r) (hi : i ≤ l.length) (hn : 12 * l.length + T + 200 ≤ n) :
    m_expr_Parse n l (i : Int) = some (parseR l i r) := by
  obtain ⟨r', hr', h1⟩ := parse_m hl hi (n := n) (by omega)
  have h2 := parse_ref hl hk hT hT2 hr' hi hn
  rw [parse_ref hl hk hT hT2 hr hi hn] at h2
  rw [h1, h2]
end Go.Proofs.YtonhmholnneaaaaGreat
end
section
namespace Go.Proofs.YtonhmholnneaaaaGreat
set_option linter.unusedVariables false
set_option linter.unusedSimpArgs false
set_option maxRecDepth 10000
abbrev St := S_api_Stmt
def plnB (x : List Nd) : Bool := (x.filter isName).all fun y => y.f_Op == 2
theorem allP_loop {F : Nat → Int → Option (LR Unit Bool)} (l : List Nd) (h0 : ∀ k i, l.length ≤ i → F (k + 1) (i : Int) = some (.out ())) (h1 : ∀ k i x, i < l.length → l[i]? = some x → F (k + 1) (i : Int) = bif x.f_Op != 2 then some (.ret false) else F k ((i + 1 : Nat) : Int)) : ∀ (m i k : Nat), l.length - i ≤ m → l.length - i < k → F k (i : Int) = some (if (l.drop i).all (fun y => y.f_Op == 2) then .out () else .ret false) := by
  intro m
  induction m with
  | zero =>
    intro i k h hk
    obtain ⟨k, rfl⟩ : ∃ j, k = j + 1 := ⟨k - 1, by omega⟩
    rw [h0 k i (by omega), List.drop_of_length_le (by omega)]; rfl
  | succ m ih =>
    intro i k h hk
    obtain ⟨k, rfl⟩ : ∃ j, k = j + 1 := ⟨k - 1, by omega⟩
    by_cases hi : i < l.length
    · rw [h1 k i _ hi (List.getElem?_eq_getElem hi), ih (i + 1) k (by omega) (by omega), List.drop_eq_getElem_cons hi, List.all_cons]
      by_cases hx : l[i].f_Op = 2
      · simp [hx]
      · have : (l[i].f_Op == 2) = false := by rw [beq_eq_false_iff_ne]; exact hx
        simp [this, bne]
    · rw [h0 k i (by omega), List.drop_of_length_le (by omega)]; rfl
theorem plain_m {x : List Nd} (h : GoodX x) (hl : x.length ≤ 200) (hd : (depF x (0, [])).1 ≤ 30) {n : Nat} (hn : 600 < n) : m_stmt_plain n x = some (plnB x) ∧ m_ref03_Plain n x = some (plnB x) := by
  obtain ⟨t, _, _, _, _, h5⟩ := good_tree h hl hd
  obtain ⟨n, rfl⟩ : ∃ j, n = j + 1 := ⟨n - 1, by omega⟩
  have hf : (x.filter isName).length ≤ 200 := Nat.le_trans (List.length_filter_le ..) hl
  constructor
  · rw [m_stmt_plain, names_m n x (by omega) (by omega), Option.bind_some]
    have := allP_loop (F := fun k i => stmt_plain_L0 n (x.filter isName) k i) (x.filter isName) (fun k i h => by rw [stmt_plain_L0, bif_not (by omega)]) (fun k i y hi hy => by rw [stmt_plain_L0, bif_decide (by omega), idx_some hy, Option.bind_some, wrap_one i (by omega)]) (x.filter isName).length 0 n (by omega) (by omega)
    rw [show ((0 : Nat) : Int) = 0 from rfl] at this
    rw [this, Option.bind_some, List.drop_zero, eright_m n x (by omega) (by omega), h5]
    unfold plnB
    by_cases c : (x.filter isName).all (fun y => y.f_Op == 2) = true
    · rw [if_pos c, c]; rfl
    · rw [if_neg c]; rw [Bool.not_eq_true] at c; rw [c]
  · rw [m_ref03_Plain, rnames_m n x (by omega) (by omega), Option.bind_some]
    have := allP_loop (F := fun k i => ref03_Plain_L0 n (x.filter isName) k i) (x.filter isName) (fun k i h => by rw [ref03_Plain_L0, bif_not (by omega)]) (fun k i y hi hy => by rw [ref03_Plain_L0, bif_decide (by omega), idx_some hy, Option.bind_some, wrap_one i (by omega)]) (x.filter isName).length 0 n (by omega) (by omega)
    rw [show ((0 : Nat) : Int) = 0 from rfl] at this
    rw [this, Option.bind_some, List.drop_zero, rright_e n x (good_light h hl) (by omega), h5]
    unfold plnB
    by_cases c : (x.filter isName).all (fun y => y.f_Op == 2) = true
    · rw [if_pos c, c]; rfl
    · rw [if_neg c]; rw [Bool.not_eq_true] at c; rw [c]
structure Toks (T : Nat) (l : List Tk) : Prop where
  len : l.length < 100000
  ok : ∀ t ∈ l, TkOk t
  txt : ∀ t ∈ l, t.f_Text.length ≤ T
  small : T < 100000
def plainR (l : List Tk) (i : Nat) : PR → PR
  | .bad e a => .bad e a
  | .ok x tu => if 30 < (depF x (0, [])).1 then .bad 7 (placeF l i) else if 200 < x.length then .bad 2 (placeF l i) else if plnB x = true then .ok x tu else .bad 5 (placeF l i)
open Classical in
noncomputable def exQ (l : List Tk) (i : Nat) : PR := if h : ∃ r, PE l (.fl 0) 0 i r then plainR l i h.choose else .bad 6 0
theorem exQ_is {T : Nat} {l : List Tk} (hk : Toks T l) {i : Nat} (hi : i ≤ l.length) : ∃ r, PE l (.fl 0) 0 i r ∧ exQ l i = plainR l i r := by
  have h : ∃ r, PE l (.fl 0) 0 i r := fl_total l.length i 0 0 (by omega) hi (by omega) (by omega)
  exact ⟨h.choose, h.choose_spec, by unfold exQ; rw [dif_pos h]⟩
theorem exQ_ok {T : Nat} {l : List Tk} (hk : Toks T l) {i : Nat} (hi : i ≤ l.length) : match exQ l i with
    | .ok x tu => i < tu ∧ tu ≤ l.length ∧ x.length ≤ 200
    | .bad e _ => e ≠ 0 := by
  obtain ⟨r, hr, e⟩ := exQ_is hk hi
  rw [e]
  cases r with
  | bad e a => exact PE_ok hr hi
  | ok x tu =>
    have := PE_ok hr hi; dsimp only at this
    simp only [plainR]
    split
    · rename_i h; split at h
      · cases h
      · split at h
        · cases h
        · split at h
          · cases h; omega
          · cases h
    · rename_i h; split at h
      · cases h; decide
      · split at h
        · cases h; decide
        · split at h
          · cases h
          · cases h; decide
end Go.Proofs.YtonhmholnneaaaaGreat
end
section
namespace Go.Proofs.YtonhmholnneaaaaGreat
set_option linter.unusedVariables false
set_option linter.unusedSimpArgs false
set_option maxRecDepth 10000
abbrev Mp := List (List UInt8 × Int)
theorem Toks.at' {T : Nat} {l : List Tk} (hk : Toks T l) {i : Nat} (h : i < l.length) : placeF l i = (l[i]).f_At := by unfold placeF; rw [List.getElem?_eq_getElem h]
theorem plainR_cases {l : List Tk} (hk : ∀ t ∈ l, TkOk t) {i : Nat} {r : PR} (hr : PE l (.fl 0) 0 i r) (hi : i ≤ l.length) :
    (∃ e a, e ≠ 0 ∧ parseR l i r = ([], 0, e, a) ∧ plainR l i r = .bad e a) ∨
    (∃ (x : List Nd) (tu : Nat), parseR l i r = (x, (tu : Int), 0, 0) ∧ i < tu ∧ tu ≤ l.length ∧ x.length ≤ 200 ∧ GoodX x ∧ (depF x (0, [])).1 ≤ 30 ∧ plainR l i r = if plnB x = true then .ok x tu else .bad 5 (placeF l i)) := by
  cases r with
  | bad e a => exact .inl ⟨e, a, PE_ok hr hi, rfl, rfl⟩
  | ok x tu =>
    have hx := PE_ok hr hi; dsimp only at hx
    have hg : GoodX x := PE_good hk hr
    simp only [parseR, plainR]
    by_cases c : 30 < (depF x (0, [])).1
    · rw [if_pos c, if_pos c]; exact .inl ⟨7, _, by decide, rfl, rfl⟩
    · rw [if_neg c, if_neg c]
      by_cases c2 : 200 < x.length
      · rw [if_pos c2, if_pos c2]; exact .inl ⟨2, _, by decide, rfl, rfl⟩
      · rw [if_neg c2, if_neg c2]; exact .inr ⟨x, tu, rfl, by omega, by omega, by omega, hg, by omega, rfl⟩
theorem rplain_m {T : Nat} {l : List Tk} (hk : Toks T l) {i n : Nat} (hi : i ≤ l.length) (hn : 12 * l.length + T + 800 ≤ n) : m_ref03_plain n l (i : Int) = some (match exQ l i with | .ok x tu => (x, (tu : Int), 0, 0) | .bad e a => ([], 0, e, a)) := by
  obtain ⟨r, hr, e⟩ := exQ_is hk hi
  obtain ⟨n, rfl⟩ : ∃ j, n = j + 1 := ⟨n - 1, by omega⟩
  rw [m_ref03_plain, parse_ref hk.len hk.ok hk.txt hk.small hr hi (by omega), e, Option.bind_some]
  rcases plainR_cases hk.ok hr hi with ⟨e, a, h0, h1, h2⟩ | ⟨x, tu, h1, h3, h4, h5, h6, h7, h2⟩
  · rw [h1, h2]
    dsimp only
    rw [show (e != 0) = true by rw [bne_iff_ne]; exact h0]; rfl
  · rw [h1, h2]
    dsimp only
    rw [bne_self_eq_false, cond_false, (plain_m h6 h5 h7 (by omega)).2, Option.bind_some]
    by_cases c : plnB x = true
    · rw [if_pos c, c]; rfl
    · rw [if_neg c]; rw [Bool.not_eq_true] at c
      have hlt : i < l.length := by omega
      rw [c, cond_false, idx_get hlt, Option.bind_some, hk.at' hlt]
theorem is_s (n : Nat) (s : List UInt8) (l : List Tk) (i : Nat) (a b : Int) (m : Mp) : m_stmt_parser_is (n + 1) 3 s l (i : Int) a b m = some (isSg l i s) := by
  rw [m_stmt_parser_is]
  by_cases h : i < l.length
  · rw [bif_decide (by omega), idx_get h, Option.bind_some, Option.bind_some]
    unfold isSg
    rw [List.getElem?_eq_getElem h]
    dsimp only
    cases hk : (l[i].f_Kind == 3) <;> simp
  · rw [bif_not (by omega)]
    unfold isSg
    rw [List.getElem?_eq_none (by omega)]
theorem place_s (n : Nat) (l : List Tk) (i : Nat) (c a b : Int) (m : Mp) (hl : l.length < 1000000) : m_stmt_parser_place (n + 1) (i : Int) l c a b m = some (placeF l i) := by
  rw [m_stmt_parser_place]
  by_cases h : i < l.length
  · rw [bif_decide (by omega), idx_get h, Option.bind_some]
    unfold placeF
    rw [List.getElem?_eq_getElem h]
  · rw [bif_not (by omega)]
    unfold placeF
    rw [List.getElem?_eq_none (by omega)]
    by_cases h0 : l.length = 0
    · have : l = [] := List.length_eq_zero_iff.1 h0
      subst this
      rfl
    · have e : IntKind.i64.wrap ((l.length : Int) - 1) = ((l.length - 1 : Nat) : Int) := by rw [wrap64 (by omega)]; omega
      rw [e, bif_decide (by omega), idx_get (show l.length - 1 < l.length by omega), Option.bind_some, Option.bind_some, List.getElem?_eq_getElem (show l.length - 1 < l.length by omega)]
theorem fail_s (n : Nat) (l : List Tk) (i : Nat) (m : Mp) (hl : l.length < 1000000) : m_stmt_parser_fail (n + 2) l (i : Int) 0 0 m = some (errF l i, placeF l i) := by
  rw [m_stmt_parser_fail, bne_self_eq_false, cond_false, place_s n l i _ _ _ m hl, Option.bind_some]
  unfold errF
  by_cases h : i < l.length
  · rw [bif_not (by omega), if_pos h]
  · rw [bif_decide (by omega), if_neg h]
theorem sign_err (n : Nat) (s : List UInt8) (l : List Tk) (i e a : Int) (m : Mp) (he : e ≠ 0) : m_stmt_parser_sign (n + 1) s l i e a m = some (i, e, a) := by
  rw [m_stmt_parser_sign, show (e != 0) = true by rw [bne_iff_ne]; exact he, cond_true]
theorem sign_s (n : Nat) (s : List UInt8) (l : List Tk) (i : Nat) (m : Mp) (hl : l.length < 1000000) : m_stmt_parser_sign (n + 3) s l (i : Int) 0 0 m = some (if isSg l i s = true then (((i + 1 : Nat) : Int), 0, 0) else ((i : Int), errF l i, placeF l i)) := by
  rw [m_stmt_parser_sign, bne_self_eq_false, cond_false, is_s, Option.bind_some]
  by_cases c : isSg l i s = true
  · have := isS_lt c
    rw [if_pos c, c, cond_true, wrap_one i (by omega)]
  · rw [if_neg c]; rw [Bool.not_eq_true] at c
    rw [c, cond_false, fail_s n l i m hl, Option.bind_some]
def txt (l : List Tk) (i : Nat) : List UInt8 := match l[i]? with | some t => t.f_Text | none => []
theorem name_s (n : Nat) (l : List Tk) (i : Nat) (m : Mp) (hl : l.length < 1000000) : m_stmt_parser_name (n + 3) l (i : Int) 0 0 m = some (if isN l i = true then (txt l i, ((i + 1 : Nat) : Int), 0, 0) else ([], (i : Int), errF l i, placeF l i)) := by
  rw [m_stmt_parser_name, bne_self_eq_false, cond_false, fail_s n l i m hl]
  by_cases h : i < l.length
  · have e1 : IntKind.i64.wrap (IntKind.i64.wrap ((i : Int) + 1) - 1) = (i : Int) := by rw [wrap_one i (by omega), wrap64 (by omega)]; omega
    rw [bif_not (by omega), idx_get h, Option.bind_some, e1, idx_get h, wrap_one i (by omega)]
    have hn : isN l i = (l[i].f_Kind == 1 && nameB l[i].f_Text) := by unfold isN; rw [List.getElem?_eq_getElem h]
    have ht : txt l i = l[i].f_Text := by unfold txt; rw [List.getElem?_eq_getElem h]
    rw [hn, ht]
    by_cases h1 : l[i].f_Kind = 1
    · rw [h1, bne_self_eq_false, cond_false]
      simp only [Option.bind_some, m_scan_Name, beq_self_eq_true, Bool.true_and]
      cases nameB l[i].f_Text <;> rfl
    · rw [show (l[i].f_Kind != 1) = true by rw [bne_iff_ne]; exact h1, show (l[i].f_Kind == 1) = false by rw [beq_eq_false_iff_ne]; exact h1]; rfl
  · rw [bif_decide (by omega)]
    have hn : isN l i = false := by unfold isN; rw [List.getElem?_eq_none (by omega)]
    rw [hn]; rfl
theorem expr_s {T : Nat} {l : List Tk} (hk : Toks T l) {i n : Nat} (m : Mp) (hi : i ≤ l.length) (hn : 12 * l.length + T + 800 ≤ n) : m_stmt_parser_expr n l (i : Int) 0 0 m = some (match exQ l i with | .ok x tu => (x, (tu : Int), 0, 0) | .bad e a => ([], (i : Int), e, a)) := by
  obtain ⟨r, hr, e⟩ := exQ_is hk hi
  obtain ⟨n, rfl⟩ : ∃ j, n = j + 3 := ⟨n - 3, by omega⟩
  have hl := hk.len
  rw [m_stmt_parser_expr, bne_self_eq_false, cond_false, parse_prog hk.len hk.ok hk.txt hk.small hr hi (by omega), e, Option.bind_some]
  rcases plainR_cases hk.ok hr hi with ⟨e, a, h0, h1, h2⟩ | ⟨x, tu, h1, h3, h4, h5, h6, h7, h2⟩
  · rw [h1, h2]
    dsimp only
    rw [show (e != 0) = true by rw [bne_iff_ne]; exact h0]; rfl
  · rw [h1, h2]
    dsimp only
    rw [bne_self_eq_false, cond_false, (plain_m h6 h5 h7 (by omega)).1, Option.bind_some]
    by_cases c : plnB x = true
    · rw [if_pos c, c]; rfl
    · rw [if_neg c]; rw [Bool.not_eq_true] at c
      have hlt : i < l.length := by omega
      rw [c, cond_false, fail_s n l i m (by omega), Option.bind_some]
      unfold errF; rw [if_pos hlt]
theorem rname_at {T : Nat} {l : List Tk} (hk : Toks T l) {i n : Nat} (hn : T + 60 ≤ n) : m_ref03_Name n l (i : Int) = some (isN l i) := by
  obtain ⟨n, rfl⟩ : ∃ j, n = j + 1 := ⟨n - 1, by omega⟩
  have hs := hk.small
  rw [m_ref03_Name]
  by_cases h : i < l.length
  · have ht := hk.txt l[i] (List.getElem_mem h)
    rw [bif_decide (by omega), idx_get h, Option.bind_some, Option.bind_some, rname_m n _ (by omega) (by omega)]
    unfold isN
    rw [List.getElem?_eq_getElem h]
    dsimp only
    cases l[i].f_Kind == 1 <;> rfl
  · rw [bif_not (by omega)]
    unfold isN
    rw [List.getElem?_eq_none (by omega)]
theorem wrong_r (n : Nat) (l : List Tk) (i : Nat) (hl : l.length < 1000000) : m_ref03_Wrong (n + 2) l (i : Int) = some (errF l i, placeF l i) := by
  rw [m_ref03_Wrong, place_r n l i hl]
  unfold errF
  by_cases h : i < l.length
  · rw [bif_not (by omega), if_pos h]; rfl
  · rw [bif_decide (by omega), if_neg h]; rfl
end Go.Proofs.YtonhmholnneaaaaGreat
end
section
namespace Go.Proofs.YtonhmholnneaaaaGreat
set_option linter.unusedVariables false
set_option linter.unusedSimpArgs false
set_option maxRecDepth 10000
structure Fs where
  reg : List UInt8
  loc : List UInt8
  e : List Nd
  f : List Nd
  ne : Bool
inductive FR where
  | ok (s : Fs) (i : Nat)
  | bad (e a : Int)
def stepF (l : List Tk) (ex : Nat → PR) (c : UInt8) (i : Nat) (s : Fs) : FR :=
  if c.toNat = 114 then (if isN l i = true then .ok { s with reg := txt l i } (i + 1) else .bad (errF l i) (placeF l i))
  else if c.toNat = 108 then (if isN l i = true then .ok { s with loc := txt l i } (i + 1) else .bad (errF l i) (placeF l i))
  else if c.toNat = 101 then (match ex i with | .ok x tu => .ok { s with e := x } tu | .bad e a => .bad e a)
  else if c.toNat = 102 then (match ex i with | .ok x tu => .ok { s with f := x } tu | .bad e a => .bad e a)
  else if c.toNat = 113 then (if isSg l i [33, 61] = true then .ok { s with ne := true } (i + 1) else if isSg l i [61, 61] = true then .ok { s with ne := false } (i + 1) else .bad (errF l i) (placeF l i))
  else if isSg l i [c] = true then .ok s (i + 1) else .bad (errF l i) (placeF l i)
def runF (l : List Tk) (ex : Nat → PR) : List UInt8 → Nat → Fs → FR
  | [], i, s => .ok s i
  | c :: cs, i, s => match stepF l ex c i s with
    | .ok s' j => runF l ex cs j s'
    | .bad e a => .bad e a
def FRok (l : List Tk) (i : Nat) : FR → Prop
  | .ok _ j => i < j ∧ j ≤ l.length
  | .bad e _ => e ≠ 0
def FRle (l : List Tk) (i : Nat) : FR → Prop
  | .ok _ j => i ≤ j ∧ j ≤ l.length
  | .bad e _ => e ≠ 0
theorem fr_ite {Q : FR → Prop} {c : Prop} [Decidable c] {a b : FR} (h1 : c → Q a) (h2 : ¬ c → Q b) : Q (if c then a else b) := by
  by_cases h : c
  · rw [if_pos h]; exact h1 h
  · rw [if_neg h]; exact h2 h
theorem stepF_ok {T : Nat} {l : List Tk} (hk : Toks T l) {c : UInt8} {i : Nat} {s : Fs} (hi : i ≤ l.length) : FRok l i (stepF l (exQ l) c i s) := by
  have hex := exQ_ok hk hi
  have h1 : ∀ s, isSg l i s = true → i < i + 1 ∧ i + 1 ≤ l.length := fun s h => by have := isS_lt h; omega
  have h2 : isN l i = true → i < i + 1 ∧ i + 1 ≤ l.length := fun h => by have := isN_lt h; omega
  have he := err_ne l i
  unfold stepF
  refine fr_ite (fun _ => fr_ite h2 fun _ => he) fun _ => fr_ite (fun _ => fr_ite h2 fun _ => he) fun _ => fr_ite (fun _ => ?_) fun _ => fr_ite (fun _ => ?_) fun _ => fr_ite (fun _ => fr_ite (h1 _) fun _ => fr_ite (h1 _) fun _ => he) fun _ => fr_ite (h1 _) fun _ => he
  · revert hex; cases exQ l i with
    | ok x tu => intro h; exact ⟨h.1, h.2.1⟩
    | bad e a => intro h; exact h
  · revert hex; cases exQ l i with
    | ok x tu => intro h; exact ⟨h.1, h.2.1⟩
    | bad e a => intro h; exact h
theorem runF_ok {T : Nat} {l : List Tk} (hk : Toks T l) : ∀ (cs : List UInt8) (i : Nat) (s : Fs), i ≤ l.length → FRle l i (runF l (exQ l) cs i s)
  | [], i, s, hi => ⟨Nat.le_refl _, hi⟩
  | c :: cs, i, s, hi => by
    have h := stepF_ok hk (c := c) (s := s) hi
    unfold runF
    revert h
    cases stepF l (exQ l) c i s with
    | bad e a => intro h; exact h
    | ok s' j =>
      intro h
      have := runF_ok hk cs j s' h.2
      dsimp only
      revert this
      cases runF l (exQ l) cs j s' with
      | ok s2 j2 => intro h2; exact ⟨Nat.le_trans (Nat.le_of_lt h.1) h2.1, h2.2⟩
      | bad e a => intro h2; exact h2
theorem cut1 (pre cs : List UInt8) (c : UInt8) (h : pre.length < 1000000) : List.drop ((pre.length : Int)).toNat (List.take (IntKind.i64.wrap ((pre.length : Int) + 1)).toNat (pre ++ c :: cs)) = [c] := by
  rw [wrap_one pre.length (by omega)]
  rw [Int.toNat_natCast, Int.toNat_natCast, List.take_append, List.take_of_length_le (by omega), show pre.length + 1 - pre.length = 1 by omega, List.drop_append_of_le_length (by omega), List.drop_length]
  simp
theorem cutb (pre cs : List UInt8) (c : UInt8) (h : pre.length < 1000000) : (decide (0 ≤ IntKind.i64.wrap ((pre.length : Int) + 1)) && decide (IntKind.i64.wrap ((pre.length : Int) + 1) ≤ (((pre ++ c :: cs).length : Nat) : Int)) && decide (0 ≤ (pre.length : Int)) && decide ((pre.length : Int) ≤ IntKind.i64.wrap ((pre.length : Int) + 1))) = true := by
  rw [wrap_one pre.length (by omega)]
  simp only [Bool.and_eq_true, decide_eq_true_eq, List.length_append, List.length_cons]
  omega
theorem idx_pre (pre cs : List UInt8) (c : UInt8) : idx (pre ++ c :: cs) (pre.length : Int) = some c := by rw [idx_nat]; simp
theorem u8_eq (c : UInt8) (k : Nat) (K : Int) (hK : (k : Int) = K) : ((c.toNat : Int) == K) = decide (c.toNat = k) := by
  subst hK
  by_cases h : c.toNat = k
  · rw [h]; simp
  · rw [decide_eq_false h, beq_eq_false_iff_ne]; omega
theorem fields_r {T : Nat} {l : List Tk} (hk : Toks T l) {n : Nat} (hn : 12 * l.length + T + 900 ≤ n) (x : St) : ∀ (cs pre : List UInt8) (i k : Nat) (s : Fs), i ≤ l.length → (pre ++ cs).length < 100 → cs.length < k →
    match runF l (exQ l) cs i s with
    | .ok s' j => ref03_fields_L0 n l x (pre ++ cs) k (i : Int) (pre.length : Int) s.reg s.loc s.e s.f s.ne = some (.out ((j : Int), s'.reg, s'.loc, s'.e, s'.f, s'.ne))
    | .bad e a => ∃ X, ref03_fields_L0 n l x (pre ++ cs) k (i : Int) (pre.length : Int) s.reg s.loc s.e s.f s.ne = some (.ret (X, 0, e, a)) := by
  intro cs
  induction cs with
  | nil =>
    intro pre i k s hi hlen hkk
    obtain ⟨k, rfl⟩ : ∃ j, k = j + 1 := ⟨k - 1, by omega⟩
    rw [runF, ref03_fields_L0, bif_not (by simp)]
  | cons c cs ih =>
    intro pre i k s hi hlen hkk
    obtain ⟨k, rfl⟩ : ∃ j, k = j + 1 := ⟨k - 1, by omega⟩
    obtain ⟨n, rfl⟩ : ∃ j, n = j + 3 := ⟨n - 3, by omega⟩
    have hl := hk.len
    have hp : pre.length < 1000000 := by simp at hlen; omega
    have go : ∀ (j : Nat) (s' : Fs), j ≤ l.length → match runF l (exQ l) cs j s' with
        | .ok s2 j2 => ref03_fields_L0 (n + 3) l x (pre ++ c :: cs) k (j : Int) ((pre.length + 1 : Nat) : Int) s'.reg s'.loc s'.e s'.f s'.ne = some (.out ((j2 : Int), s2.reg, s2.loc, s2.e, s2.f, s2.ne))
        | .bad e a => ∃ X, ref03_fields_L0 (n + 3) l x (pre ++ c :: cs) k (j : Int) ((pre.length + 1 : Nat) : Int) s'.reg s'.loc s'.e s'.f s'.ne = some (.ret (X, 0, e, a)) := fun j s' hj => by
      have := ih (pre ++ [c]) j k s' hj (by simpa using hlen) (by simp at hkk; omega)
      simpa only [List.append_assoc, List.singleton_append, List.length_append, List.length_singleton] using this
    have hex := exQ_ok hk hi
    have hw := wrap_one pre.length (show pre.length < 4611686018427387904 by omega)
    unfold runF stepF
    rw [ref03_fields_L0, bif_decide (show ((pre.length : Nat) : Int) < (((pre ++ c :: cs).length : Nat) : Int) by simp; omega)]
    simp only [idx_pre, Option.bind_some, u8_eq c 114 114 rfl, u8_eq c 108 108 rfl, u8_eq c 101 101 rfl, u8_eq c 102 102 rfl, u8_eq c 113 113 rfl]
    by_cases c1 : c.toNat = 114
    · simp only [if_pos c1, decide_eq_true c1, cond_true, rname_at hk (show T + 60 ≤ n + 3 by omega), Option.bind_some]
      by_cases h : isN l i = true
      · have hlt := isN_lt h
        rw [if_pos h, h, cond_true, idx_get hlt, Option.bind_some, wrap_one i (by omega), hw]
        have := go (i + 1) { s with reg := txt l i } hlt
        rw [show txt l i = l[i].f_Text by unfold txt; rw [List.getElem?_eq_getElem hlt]] at this ⊢
        exact this
      · rw [if_neg h]; rw [Bool.not_eq_true] at h
        rw [h, cond_false, wrong_r (n + 1) l i (by omega)]
        exact ⟨_, rfl⟩
    · rw [if_neg c1]
      simp only [decide_eq_false c1, cond_false]
      by_cases c2 : c.toNat = 108
      · simp only [if_pos c2, decide_eq_true c2, cond_true, rname_at hk (show T + 60 ≤ n + 3 by omega), Option.bind_some]
        by_cases h : isN l i = true
        · have hlt := isN_lt h
          rw [if_pos h, h, cond_true, idx_get hlt, Option.bind_some, wrap_one i (by omega), hw]
          have := go (i + 1) { s with loc := txt l i } hlt
          rw [show txt l i = l[i].f_Text by unfold txt; rw [List.getElem?_eq_getElem hlt]] at this ⊢
          exact this
        · rw [if_neg h]; rw [Bool.not_eq_true] at h
          rw [h, cond_false, wrong_r (n + 1) l i (by omega)]
          exact ⟨_, rfl⟩
      · rw [if_neg c2]
        simp only [decide_eq_false c2, cond_false]
        by_cases c3 : c.toNat = 101
        · simp only [if_pos c3, decide_eq_true c3, cond_true, rplain_m hk hi (show 12 * l.length + T + 800 ≤ n + 3 by omega), Option.bind_some]
          revert hex
          cases exQ l i with
          | bad e a =>
            intro hex
            have he : (e != 0) = true := by rw [bne_iff_ne]; exact hex
            simp only [he, cond_true]
            exact ⟨_, rfl⟩
          | ok y tu =>
            intro hex
            simp only [bne_self_eq_false, cond_false, hw]
            exact go tu { s with e := y } hex.2.1
        · rw [if_neg c3]
          simp only [decide_eq_false c3, cond_false]
          by_cases c4 : c.toNat = 102
          · simp only [if_pos c4, decide_eq_true c4, cond_true, rplain_m hk hi (show 12 * l.length + T + 800 ≤ n + 3 by omega), Option.bind_some]
            revert hex
            cases exQ l i with
            | bad e a =>
              intro hex
              have he : (e != 0) = true := by rw [bne_iff_ne]; exact hex
              simp only [he, cond_true]
              exact ⟨_, rfl⟩
            | ok y tu =>
              intro hex
              simp only [bne_self_eq_false, cond_false, hw]
              exact go tu { s with f := y } hex.2.1
          · rw [if_neg c4]
            simp only [decide_eq_false c4, cond_false]
            by_cases c5 : c.toNat = 113
            · simp only [if_pos c5, decide_eq_true c5, cond_true, is_r, Option.bind_some]
              by_cases h : isSg l i [33, 61] = true
              · have hlt := isS_lt h
                rw [if_pos h, h, cond_true, wrap_one i (by omega), hw]
                exact go (i + 1) { s with ne := true } hlt
              · rw [if_neg h]; rw [Bool.not_eq_true] at h
                rw [h, cond_false]
                by_cases h' : isSg l i [61, 61] = true
                · have hlt := isS_lt h'
                  rw [if_pos h', h', cond_true, wrap_one i (by omega), hw]
                  exact go (i + 1) { s with ne := false } hlt
                · rw [if_neg h']; rw [Bool.not_eq_true] at h'
                  rw [h', cond_false, wrong_r (n + 1) l i (by omega)]
                  exact ⟨_, rfl⟩
            · rw [if_neg c5]
              simp only [decide_eq_false c5, cond_false, cutb pre cs c hp, cut1 pre cs c hp, cond_true, is_r, Option.bind_some]
              by_cases h : isSg l i [c] = true
              · have hlt := isS_lt h
                rw [if_pos h, h, cond_true, wrap_one i (by omega), hw]
                exact go (i + 1) s hlt
              · rw [if_neg h]; rw [Bool.not_eq_true] at h
                rw [h, cond_false, wrong_r (n + 1) l i (by omega)]
                exact ⟨_, rfl⟩
end Go.Proofs.YtonhmholnneaaaaGreat
end
section
namespace Go.Proofs.YtonhmholnneaaaaGreat
set_option linter.unusedVariables false
set_option linter.unusedSimpArgs false
set_option maxRecDepth 10000
theorem dec_u8 (c : UInt8) (k : Nat) (K : Int) (hK : (k : Int) = K) : decide ((c.toNat : Int) = K) = decide (c.toNat = k) := by
  subst hK
  by_cases h : c.toNat = k
  · rw [h]; simp
  · rw [decide_eq_false h, decide_eq_false (by omega)]
theorem fieldsErr_s {l : List Tk} {n : Nat} (hn : 5 < n) (m : Mp) (x4 : Tk) (y5 : S_stmt_kind × Bool) (y8 : Int) (i e a : Int) (he : e ≠ 0) (s : Fs) : ∀ (cs pre : List UInt8) (k : Nat), y5.1.f_form = pre ++ cs → (pre ++ cs).length < 100 → cs.length < k →
    stmt_parser_one_L0 n l m x4 y5 y8 k (pre.length : Int) i e a s.reg s.loc s.e s.f s.ne = some (.out (i, e, a, s.reg, s.loc, s.e, s.f, s.ne)) := by
  intro cs
  obtain ⟨n, rfl⟩ : ∃ j, n = j + 1 := ⟨n - 1, by omega⟩
  have hb : (e == 0) = false := by rw [beq_eq_false_iff_ne]; exact he
  induction cs with
  | nil =>
    intro pre k hf hlen hkk
    obtain ⟨k, rfl⟩ : ∃ j, k = j + 1 := ⟨k - 1, by omega⟩
    rw [stmt_parser_one_L0, hf, bif_not (by simp)]
  | cons c cs ih =>
    intro pre k hf hlen hkk
    obtain ⟨k, rfl⟩ : ∃ j, k = j + 1 := ⟨k - 1, by omega⟩
    have hp : pre.length < 1000000 := by simp at hlen; omega
    have go := ih (pre ++ [c]) k (by simpa using hf) (by simpa using hlen) (by simp at hkk; omega)
    simp only [List.length_append, List.length_singleton] at go
    have hw := wrap_one pre.length (show pre.length < 4611686018427387904 by omega)
    rw [stmt_parser_one_L0, hf, bif_decide (show ((pre.length : Nat) : Int) < (((pre ++ c :: cs).length : Nat) : Int) by simp; omega)]
    simp only [idx_pre, Option.bind_some, hb, cond_false, cutb pre cs c hp, cond_true, cut1 pre cs c hp, sign_err _ _ _ _ _ _ _ he]
    simp only [hw, go]
    cases decide ((c.toNat : Int) = 114) <;> cases decide ((c.toNat : Int) = 108) <;> cases decide ((c.toNat : Int) = 101) <;> cases decide ((c.toNat : Int) = 102) <;> cases decide ((c.toNat : Int) = 113) <;> rfl
theorem fields_s {T : Nat} {l : List Tk} (hk : Toks T l) {n : Nat} (hn : 12 * l.length + T + 900 ≤ n) (m : Mp) (x4 : Tk) (y5 : S_stmt_kind × Bool) (y8 : Int) : ∀ (cs pre : List UInt8) (i k : Nat) (s : Fs), y5.1.f_form = pre ++ cs → i ≤ l.length → (pre ++ cs).length < 100 → cs.length < k →
    match runF l (exQ l) cs i s with
    | .ok s' j => stmt_parser_one_L0 n l m x4 y5 y8 k (pre.length : Int) (i : Int) 0 0 s.reg s.loc s.e s.f s.ne = some (.out ((j : Int), 0, 0, s'.reg, s'.loc, s'.e, s'.f, s'.ne))
    | .bad e a => ∃ (i' : Int) (s' : Fs), stmt_parser_one_L0 n l m x4 y5 y8 k (pre.length : Int) (i : Int) 0 0 s.reg s.loc s.e s.f s.ne = some (.out (i', e, a, s'.reg, s'.loc, s'.e, s'.f, s'.ne)) := by
  intro cs
  induction cs with
  | nil =>
    intro pre i k s hf hi hlen hkk
    obtain ⟨k, rfl⟩ : ∃ j, k = j + 1 := ⟨k - 1, by omega⟩
    rw [runF, stmt_parser_one_L0, hf, bif_not (by simp)]
  | cons c cs ih =>
    intro pre i k s hf hi hlen hkk
    obtain ⟨k, rfl⟩ : ∃ j, k = j + 1 := ⟨k - 1, by omega⟩
    obtain ⟨n, rfl⟩ : ∃ j, n = j + 5 := ⟨n - 5, by omega⟩
    have hl := hk.len
    have hp : pre.length < 1000000 := by simp at hlen; omega
    have hlen' : (pre ++ [c] ++ cs).length < 100 := by simpa using hlen
    have hf' : y5.1.f_form = pre ++ [c] ++ cs := by simpa using hf
    have hkk' : cs.length < k := by simp at hkk; omega
    have go : ∀ (j : Nat) (s' : Fs), j ≤ l.length → match runF l (exQ l) cs j s' with
        | .ok s2 j2 => stmt_parser_one_L0 (n + 5) l m x4 y5 y8 k ((pre.length + 1 : Nat) : Int) (j : Int) 0 0 s'.reg s'.loc s'.e s'.f s'.ne = some (.out ((j2 : Int), 0, 0, s2.reg, s2.loc, s2.e, s2.f, s2.ne))
        | .bad e a => ∃ (i' : Int) (s2 : Fs), stmt_parser_one_L0 (n + 5) l m x4 y5 y8 k ((pre.length + 1 : Nat) : Int) (j : Int) 0 0 s'.reg s'.loc s'.e s'.f s'.ne = some (.out (i', e, a, s2.reg, s2.loc, s2.e, s2.f, s2.ne)) := fun j s' hj => by
      have := ih (pre ++ [c]) j k s' hf' hj hlen' hkk'
      simpa only [List.length_append, List.length_singleton] using this
    have stop : ∀ (i' e a : Int) (s' : Fs), e ≠ 0 → stmt_parser_one_L0 (n + 5) l m x4 y5 y8 k ((pre.length + 1 : Nat) : Int) i' e a s'.reg s'.loc s'.e s'.f s'.ne = some (.out (i', e, a, s'.reg, s'.loc, s'.e, s'.f, s'.ne)) := fun i' e a s' he => by
      have := fieldsErr_s (l := l) (n := n + 5) (by omega) m x4 y5 y8 i' e a he s' cs (pre ++ [c]) k hf' hlen' hkk'
      simpa only [List.length_append, List.length_singleton] using this
    have hex := exQ_ok hk hi
    have hw := wrap_one pre.length (show pre.length < 4611686018427387904 by omega)
    have hee := err_ne l i
    unfold runF stepF
    rw [stmt_parser_one_L0, hf, bif_decide (show ((pre.length : Nat) : Int) < (((pre ++ c :: cs).length : Nat) : Int) by simp; omega)]
    simp only [idx_pre, Option.bind_some, dec_u8 c 114 114 rfl, dec_u8 c 108 108 rfl, dec_u8 c 101 101 rfl, dec_u8 c 102 102 rfl, dec_u8 c 113 113 rfl, beq_self_eq_true, cond_true]
    by_cases c1 : c.toNat = 114
    · simp only [if_pos c1, decide_eq_true c1, cond_true, m_stmt_parser_parts_1, name_s (n + 1) l i m (by omega), Option.bind_some]
      by_cases h : isN l i = true
      · simp only [if_pos h, hw]
        exact go (i + 1) { s with reg := txt l i } (isN_lt h)
      · simp only [if_neg h, hw]
        exact ⟨_, _, stop (i : Int) _ _ { s with reg := [] } hee⟩
    · rw [if_neg c1]
      simp only [decide_eq_false c1, cond_false]
      by_cases c2 : c.toNat = 108
      · simp only [if_pos c2, decide_eq_true c2, cond_true, m_stmt_parser_parts_2, name_s (n + 1) l i m (by omega), Option.bind_some]
        by_cases h : isN l i = true
        · simp only [if_pos h, hw]
          exact go (i + 1) { s with loc := txt l i } (isN_lt h)
        · simp only [if_neg h, hw]
          exact ⟨_, _, stop (i : Int) _ _ { s with loc := [] } hee⟩
      · rw [if_neg c2]
        simp only [decide_eq_false c2, cond_false]
        by_cases c3 : c.toNat = 101
        · simp only [if_pos c3, decide_eq_true c3, cond_true, m_stmt_parser_parts_3, expr_s hk m hi (show 12 * l.length + T + 800 ≤ n + 4 by omega), Option.bind_some]
          revert hex
          cases exQ l i with
          | bad e a =>
            intro hex
            simp only [hw]
            exact ⟨_, _, stop (i : Int) e a { s with e := [] } hex⟩
          | ok y tu =>
            intro hex
            simp only [hw]
            exact go tu { s with e := y } hex.2.1
        · rw [if_neg c3]
          simp only [decide_eq_false c3, cond_false]
          by_cases c4 : c.toNat = 102
          · simp only [if_pos c4, decide_eq_true c4, cond_true, m_stmt_parser_parts_4, expr_s hk m hi (show 12 * l.length + T + 800 ≤ n + 4 by omega), Option.bind_some]
            revert hex
            cases exQ l i with
            | bad e a =>
              intro hex
              simp only [hw]
              exact ⟨_, _, stop (i : Int) e a { s with f := [] } hex⟩
            | ok y tu =>
              intro hex
              simp only [hw]
              exact go tu { s with f := y } hex.2.1
          · rw [if_neg c4]
            simp only [decide_eq_false c4, cond_false]
            by_cases c5 : c.toNat = 113
            · simp only [if_pos c5, decide_eq_true c5, cond_true, m_stmt_parser_parts_5, is_s, sign_s (n + 1) _ l i m (show l.length < 1000000 by omega), Option.bind_some]
              by_cases h : isSg l i [33, 61] = true
              · have hlt := isS_lt h
                rw [if_pos h, h, cond_true, Option.bind_some, wrap_one i (by omega), hw]
                exact go (i + 1) { s with ne := true } hlt
              · rw [if_neg h]; rw [Bool.not_eq_true] at h
                rw [h, cond_false]
                by_cases h' : isSg l i [61, 61] = true
                · have hlt := isS_lt h'
                  simp only [if_pos h', Option.bind_some, hw]
                  exact go (i + 1) { s with ne := false } hlt
                · simp only [if_neg h', Option.bind_some, hw]
                  exact ⟨_, _, stop (i : Int) _ _ { s with ne := false } hee⟩
            · rw [if_neg c5]
              simp only [decide_eq_false c5, cond_false, cutb pre cs c hp, cut1 pre cs c hp, cond_true, sign_s (n + 2) _ l i m (show l.length < 1000000 by omega), Option.bind_some]
              by_cases h : isSg l i [c] = true
              · have hlt := isS_lt h
                simp only [if_pos h, hw]
                exact go (i + 1) s hlt
              · simp only [if_neg h, hw]
                exact ⟨_, _, stop (i : Int) _ _ s hee⟩
end Go.Proofs.YtonhmholnneaaaaGreat
end
section
namespace Go.Proofs.YtonhmholnneaaaaGreat
set_option linter.unusedVariables false
set_option linter.unusedSimpArgs false
set_option maxRecDepth 10000
def wordsM : Mp := [([115,107,105,112], 1), ([115,101,116], 2), ([108,111,97,100], 3), ([115,116,111,114,101], 4), ([99,97,115], 5), ([102,97,100,100], 6), ([120,99,104,103], 7), ([102,101,110,99,101], 8), ([97,119,97,105,116], 9), ([105,102], 10), ([119,104,105,108,101], 11), ([108,111,111,112], 12), ([98,114,101,97,107], 13)]
def kindW (s : List UInt8) : Int := mget wordsM s 0
def kindAt (l : List Tk) (i : Nat) : Int := match l[i]? with
  | some t => if t.f_Kind = 1 then kindW t.f_Text else 0
  | none => 0
def formK (k : Int) : List UInt8 :=
  if k = 2 then [114,61,101,59] else if k = 3 then [114,61,108,59] else if k = 4 then [108,61,101,59] else if k = 5 then [114,61,108,44,101,44,102,59]
  else if k = 6 then [114,61,108,44,101,59] else if k = 7 then [114,61,108,44,101,59] else if k = 9 then [108,113,101,59] else if k = 10 then [101] else if k = 11 then [101] else if k = 12 then [] else [59]
def blockK (k : Int) : Bool := k == 10 || (k == 11 || k == 12)
theorem kindW_in (s : List UInt8) : 0 ≤ kindW s ∧ kindW s ≤ 13 := by
  unfold kindW wordsM
  simp only [mget]
  repeat' split
  all_goals omega
theorem kindAt_in (l : List Tk) (i : Nat) : 0 ≤ kindAt l i ∧ kindAt l i ≤ 13 := by
  unfold kindAt
  split
  · split
    · exact kindW_in _
    · omega
  · omega
theorem kindAt_lt {l : List Tk} {i : Nat} (h : kindAt l i ≠ 0) : i < l.length := by
  unfold kindAt at h
  cases hg : l[i]? with
  | none => rw [hg] at h; exact absurd rfl h
  | some t => exact some_lt hg
theorem kindAt_sign {l : List Tk} {i : Nat} (h : kindAt l i ≠ 0) (s : List UInt8) : isSg l i s = false := by
  unfold kindAt at h
  cases hg : l[i]? with
  | none => rw [hg] at h; exact absurd rfl h
  | some t =>
    rw [hg] at h
    dsimp only at h
    by_cases hk : t.f_Kind = 1
    · simp [isSg, hg, hk]
    · rw [if_neg hk] at h; exact absurd rfl h
theorem form_len (k : Int) : (formK k).length < 10 := by unfold formK; repeat' split
                                                         all_goals decide
theorem form_r (n : Nat) (k : Int) : m_ref03_form (n + 1) k = some (formK k) := by
  have e : ∀ a : Int, (k == a) = decide (k = a) := fun a => by by_cases h : k = a <;> simp [h]
  simp only [m_ref03_form, formK, e]
  by_cases h2 : k = 2
  · simp [h2]
  by_cases h3 : k = 3
  · simp [h3]
  by_cases h4 : k = 4
  · simp [h4]
  by_cases h5 : k = 5
  · simp [h5]
  by_cases h6 : k = 6
  · simp [h6]
  by_cases h7 : k = 7
  · simp [h7]
  by_cases h9 : k = 9
  · simp [h9]
  by_cases h10 : k = 10
  · simp [h10]
  by_cases h11 : k = 11
  · simp [h11]
  by_cases h12 : k = 12
  · simp [h12]
  simp [h2, h3, h4, h5, h6, h7, h9, h10, h11, h12]
theorem block_r (n : Nat) (k : Int) : m_ref03_block (n + 1) k = some (blockK k) := by
  rw [m_ref03_block, blockK]
  cases k == 10 <;> cases k == 11 <;> rfl
def wordsL : List (List UInt8) := [[], [115,107,105,112], [115,101,116], [108,111,97,100], [115,116,111,114,101], [99,97,115], [102,97,100,100], [120,99,104,103], [102,101,110,99,101], [97,119,97,105,116], [105,102], [119,104,105,108,101], [108,111,111,112], [98,114,101,97,107]]
theorem words_r (n : Nat) : m_ref03_words (n + 1) = some wordsL := rfl
def numW : List (List UInt8) → Nat → Mp
  | [], _ => []
  | w :: ws, j => (w, (j : Int)) :: numW ws (j + 1)
theorem kind_no {l : List Tk} {n i : Nat} (h : ∀ t, l[i]? = some t → t.f_Kind ≠ 1) : ∀ (m j k : Nat), wordsL.length - j ≤ m → m < k → j < 100 → (ref03_kind_L0 (n + 1) l (i : Int) k (j : Int)).bind (fun o => match o with | .out _ => some (0 : Int) | .ret v => some v) = some 0 := by
  intro m
  induction m with
  | zero =>
    intro j k hm hk hj
    obtain ⟨k, rfl⟩ : ∃ q, k = q + 1 := ⟨k - 1, by omega⟩
    rw [ref03_kind_L0, words_r, Option.bind_some, bif_not (by omega)]; rfl
  | succ m ih =>
    intro j k hm hk hj
    obtain ⟨k, rfl⟩ : ∃ q, k = q + 1 := ⟨k - 1, by omega⟩
    rw [ref03_kind_L0, words_r, Option.bind_some]
    by_cases hj2 : j < wordsL.length
    · rw [bif_decide (by omega)]
      by_cases hi : i < l.length
      · have hk1 : (l[i].f_Kind == 1) = false := by rw [beq_eq_false_iff_ne]; exact h _ (List.getElem?_eq_getElem hi)
        rw [bif_decide (by omega), idx_get hi, Option.bind_some, hk1, cond_false, wrap_one j (by omega)]
        exact ih (j + 1) k (by omega) (by omega) (by have : wordsL.length = 14 := rfl; omega)
      · rw [bif_not (by omega)]; rfl
    · rw [bif_not (by omega)]; rfl
theorem kind_yes {l : List Tk} {n i : Nat} {t : Tk} (ht : l[i]? = some t) (h1 : t.f_Kind = 1) : ∀ (ws pre : List (List UInt8)) (k : Nat), wordsL = pre ++ ws → ws.length < k → (ref03_kind_L0 (n + 1) l (i : Int) k (pre.length : Int)).bind (fun o => match o with | .out _ => some (0 : Int) | .ret v => some v) = some (mget (numW ws pre.length) t.f_Text 0) := by
  intro ws
  have hi := some_lt ht
  induction ws with
  | nil =>
    intro pre k hw hk
    obtain ⟨k, rfl⟩ : ∃ q, k = q + 1 := ⟨k - 1, by omega⟩
    rw [ref03_kind_L0, words_r, Option.bind_some, hw, bif_not (by simp)]; rfl
  | cons w ws ih =>
    intro pre k hw hk
    obtain ⟨k, rfl⟩ : ∃ q, k = q + 1 := ⟨k - 1, by omega⟩
    have hget : idx wordsL (pre.length : Int) = some w := by rw [hw, idx_nat]; simp
    have hlen : wordsL.length = 14 := rfl
    have hlen2 : wordsL.length = pre.length + (ws.length + 1) := by rw [hw]; simp
    rw [ref03_kind_L0, words_r, Option.bind_some, bif_decide (by omega), bif_decide (by omega), idx_some ht, Option.bind_some, h1, beq_self_eq_true, cond_true, Option.bind_some, Option.bind_some, hget, Option.bind_some]
    simp only [numW, mget]
    by_cases hx : t.f_Text = w
    · rw [if_pos hx, hx, beq_self_eq_true, cond_true]; rfl
    · have hb : (t.f_Text == w) = false := by rw [beq_eq_false_iff_ne]; exact hx
      rw [if_neg hx, hb, cond_false, wrap_one pre.length (by omega)]
      have := ih (pre ++ [w]) k (by rw [hw]; simp) (by simp at hk; omega)
      rw [List.length_append, List.length_singleton] at this
      exact this
theorem kind_r {l : List Tk} {n i : Nat} (hn : 20 < n) : m_ref03_kind n l (i : Int) = some (kindAt l i) := by
  obtain ⟨n, rfl⟩ : ∃ j, n = j + 2 := ⟨n - 2, by omega⟩
  have hlen : wordsL.length = 14 := rfl
  rw [m_ref03_kind]
  unfold kindAt
  cases hg : l[i]? with
  | none => exact kind_no (fun t ht => by rw [hg] at ht; cases ht) 14 1 (n + 1) (by omega) (by omega) (by omega)
  | some t =>
    dsimp only
    by_cases h1 : t.f_Kind = 1
    · rw [if_pos h1]
      exact kind_yes hg h1 (wordsL.drop 1) [[]] (n + 1) rfl (by rw [List.length_drop, hlen]; omega)
    · rw [if_neg h1]
      exact kind_no (fun t' ht => by rw [hg] at ht; cases ht; exact h1) 14 1 (n + 1) (by omega) (by omega) (by omega)
inductive SR where
  | ok (x : List St) (tu : Nat)
  | bad (e a : Int)
def consR (x : List St) : SR → SR
  | .ok y tu => .ok (x ++ y) tu
  | .bad e a => .bad e a
def isElse (l : List Tk) (i : Nat) : Bool := match l[i]? with
  | some t => t.f_Kind == 1 && t.f_Text == [101, 108, 115, 101]
  | none => false
def fs0 : Fs := ⟨[], [], [], [], false⟩
def mkS (k : Int) (s : Fs) (b c : Nat) (a : Int) : St := ⟨k, s.reg, s.loc, s.e, s.f, s.ne, (b : Int), (c : Int), a⟩
inductive SE (l : List Tk) : Bool → Nat → Nat → SR → Prop
  | stop {inn i : Nat} : (l.length ≤ i ∨ isSg l i [125] = true) → SE l false inn i (.ok [] i)
  | no {inn i : Nat} : i < l.length → isSg l i [125] = false → kindAt l i = 0 → SE l false inn i (.bad 5 (placeF l i))
  | fbad {inn i : Nat} {e a : Int} : kindAt l i ≠ 0 → runF l (exQ l) (formK (kindAt l i)) (i + 1) fs0 = .bad e a → SE l false inn i (.bad e a)
  | simple {inn i j : Nat} {s : Fs} {r : SR} : kindAt l i ≠ 0 → blockK (kindAt l i) = false → runF l (exQ l) (formK (kindAt l i)) (i + 1) fs0 = .ok s j → SE l false inn j r → SE l false inn i (consR [mkS (kindAt l i) s 0 0 (placeF l i)] r)
  | bbad {inn i j : Nat} {s : Fs} {e a : Int} : kindAt l i ≠ 0 → blockK (kindAt l i) = true → runF l (exQ l) (formK (kindAt l i)) (i + 1) fs0 = .ok s j → SE l true inn j (.bad e a) → SE l false inn i (.bad e a)
  | blk {inn i j j2 : Nat} {s : Fs} {b : List St} {r : SR} : kindAt l i ≠ 0 → blockK (kindAt l i) = true → runF l (exQ l) (formK (kindAt l i)) (i + 1) fs0 = .ok s j → SE l true inn j (.ok b j2) → (kindAt l i = 10 → isElse l j2 = false) → SE l false inn j2 r → SE l false inn i (consR (mkS (kindAt l i) s b.length 0 (placeF l i) :: b) r)
  | ebad {inn i j j2 : Nat} {s : Fs} {b : List St} {e a : Int} : kindAt l i = 10 → runF l (exQ l) (formK (kindAt l i)) (i + 1) fs0 = .ok s j → SE l true inn j (.ok b j2) → isElse l j2 = true → SE l true inn (j2 + 1) (.bad e a) → SE l false inn i (.bad e a)
  | els {inn i j j2 j3 : Nat} {s : Fs} {b c : List St} {r : SR} : kindAt l i = 10 → runF l (exQ l) (formK (kindAt l i)) (i + 1) fs0 = .ok s j → SE l true inn j (.ok b j2) → isElse l j2 = true → SE l true inn (j2 + 1) (.ok c j3) → SE l false inn j3 r → SE l false inn i (consR (mkS (kindAt l i) s b.length c.length (placeF l i) :: (b ++ c)) r)
  | nob {inn i : Nat} : isSg l i [123] = false → SE l true inn i (.bad (errF l i) (placeF l i))
  | deep {inn i : Nat} : isSg l i [123] = true → 30 ≤ inn → SE l true inn i (.bad 7 (placeF l i))
  | sbad {inn i : Nat} {e a : Int} : isSg l i [123] = true → inn < 30 → SE l false (inn + 1) (i + 1) (.bad e a) → SE l true inn i (.bad e a)
  | close {inn i j : Nat} {x : List St} : isSg l i [123] = true → inn < 30 → SE l false (inn + 1) (i + 1) (.ok x j) → isSg l j [125] = true → SE l true inn i (.ok x (j + 1))
  | opn {inn i j : Nat} {x : List St} : isSg l i [123] = true → inn < 30 → SE l false (inn + 1) (i + 1) (.ok x j) → isSg l j [125] = false → SE l true inn i (.bad (errF l j) (placeF l j))
def SRok (l : List Tk) (i d : Nat) : SR → Prop
  | .ok x tu => i + d ≤ tu ∧ tu ≤ l.length ∧ x.length + d ≤ tu - i
  | .bad e _ => e ≠ 0
theorem runF_le {T : Nat} {l : List Tk} (hk : Toks T l) {cs : List UInt8} {i j : Nat} {s s' : Fs} (hi : i ≤ l.length) (h : runF l (exQ l) cs i s = .ok s' j) : i ≤ j ∧ j ≤ l.length := by
  have := runF_ok hk cs i s hi
  rw [h] at this; exact this
theorem isElse_lt {l : List Tk} {i : Nat} (h : isElse l i = true) : i < l.length := by
  unfold isElse at h
  cases hg : l[i]? with
  | none => rw [hg] at h; cases h
  | some t => exact some_lt hg
theorem SE_ok {T : Nat} {l : List Tk} (hk : Toks T l) {md : Bool} {inn i : Nat} {r : SR} (h : SE l md inn i r) : i ≤ l.length → SRok l i (if md then 1 else 0) r := by
  induction h with
  | stop h => intro hi; exact ⟨by simp, hi, by simp⟩
  | no h1 h2 h3 => intro hi; show (5 : Int) ≠ 0; decide
  | @fbad inn i e a h1 h2 =>
    intro hi
    have := runF_ok hk (formK (kindAt l i)) (i + 1) fs0 (kindAt_lt h1)
    rw [h2] at this; exact this
  | @simple inn i j s r h1 h2 h3 h4 ih =>
    intro hi
    have h5 := runF_le hk (kindAt_lt h1) h3
    have h6 := ih h5.2
    cases r with
    | ok x tu => simp only [consR, SRok, Bool.false_eq_true, if_false, List.length_append, List.length_singleton] at h6 ⊢; omega
    | bad e a => exact h6
  | bbad h1 h2 h3 h4 ih => intro hi; exact ih (runF_le hk (kindAt_lt h1) h3).2
  | @blk inn i j j2 s b r h1 h2 h3 h4 h5 h6 ih1 ih2 =>
    intro hi
    have h7 := runF_le hk (kindAt_lt h1) h3
    have h8 := ih1 h7.2
    simp only [SRok, if_true] at h8
    have h9 := ih2 h8.2.1
    cases r with
    | ok x tu => simp only [consR, SRok, Bool.false_eq_true, if_false, List.length_append, List.length_cons] at h9 ⊢; omega
    | bad e a => exact h9
  | @ebad inn i j j2 s b e a h1 h3 h4 h5 h6 ih1 ih2 => intro hi; exact ih2 (isElse_lt h5)
  | @els inn i j j2 j3 s b c r h1 h3 h4 h5 h6 h7 ih1 ih2 ih3 =>
    intro hi
    have h10 : kindAt l i ≠ 0 := by omega
    have h8 := runF_le hk (kindAt_lt h10) h3
    have h9 := ih1 h8.2
    have h11 := ih2 (isElse_lt h5)
    simp only [SRok, if_true] at h9 h11
    have h12 := ih3 h11.2.1
    cases r with
    | ok x tu => simp only [consR, SRok, Bool.false_eq_true, if_false, List.length_append, List.length_cons] at h12 ⊢; omega
    | bad e a => exact h12
  | nob h => intro hi; exact err_ne l _
  | deep h1 h2 => intro hi; show (7 : Int) ≠ 0; decide
  | sbad h1 h2 h3 ih => intro hi; exact ih (isS_lt h1)
  | close h1 h2 h3 h4 ih => intro hi; have := ih (isS_lt h1); have := isS_lt h4; simp only [SRok, Bool.false_eq_true, if_false, if_true] at *; omega
  | opn h1 h2 h3 h4 ih => intro hi; exact err_ne l _
end Go.Proofs.YtonhmholnneaaaaGreat
end
section
namespace Go.Proofs.YtonhmholnneaaaaGreat
set_option linter.unusedVariables false
set_option linter.unusedSimpArgs false
set_option maxRecDepth 10000
abbrev SRes := List St × Int × Int × Int
def finD : LR (Int × List St) SRes → Option SRes
  | .out (i, x) => some (x, i, 0, 0)
  | .ret v => some v
def RefS (r : SR) (out : List St) (o : Option SRes) : Prop := match r with
  | .ok x tu => o = some (out ++ x, (tu : Int), 0, 0)
  | .bad e a => o = some ([], 0, e, a)
theorem refS_cons {r : SR} {x out : List St} {o : Option SRes} (h : RefS r (out ++ x) o) : RefS (consR x r) out o := by
  cases r with
  | ok y tu => show o = some (out ++ (x ++ y), (tu : Int), 0, 0); rw [← List.append_assoc]; exact h
  | bad e a => exact h
theorem else_ite {α : Type} (l : List Tk) (j : Nat) (A B : Option α) : (bif decide ((j : Int) < ((l.length : Nat) : Int)) then ((idx l (j : Int)).bind fun x => (bif x.f_Kind == 1 then ((idx l (j : Int)).bind fun y => (bif y.f_Text == ([101, 108, 115, 101] : List UInt8) then A else B)) else B)) else B) = bif isElse l j then A else B := by
  by_cases h : j < l.length
  · rw [bif_decide (by omega), idx_get h, Option.bind_some, Option.bind_some]
    unfold isElse
    rw [List.getElem?_eq_getElem h]
    dsimp only
    cases l[j].f_Kind == 1 <;> cases (l[j].f_Text == ([101, 108, 115, 101] : List UInt8)) <;> rfl
  · rw [bif_not (by omega)]
    unfold isElse
    rw [List.getElem?_eq_none (by omega)]; rfl
theorem fieldsD {T : Nat} {l : List Tk} (hk : Toks T l) {n i : Nat} (hn : 12 * l.length + T + 901 ≤ n) (hi : i ≤ l.length) (k : Int) (a : Int) :
    match runF l (exQ l) (formK k) i fs0 with
    | .ok s j => m_ref03_fields n l (i : Int) ⟨k, [], [], [], [], false, 0, 0, a⟩ = some (⟨k, s.reg, s.loc, s.e, s.f, s.ne, 0, 0, a⟩, (j : Int), 0, 0)
    | .bad e a' => ∃ X, m_ref03_fields n l (i : Int) ⟨k, [], [], [], [], false, 0, 0, a⟩ = some (X, 0, e, a') := by
  obtain ⟨n, rfl⟩ : ∃ j, n = j + 1 := ⟨n - 1, by omega⟩
  have hf := form_len k
  have := fields_r hk (n := n) (by omega) ⟨k, [], [], [], [], false, 0, 0, a⟩ (formK k) [] i n fs0 hi (by rw [List.nil_append]; omega) (by omega)
  obtain ⟨n, rfl⟩ : ∃ j, n = j + 1 := ⟨n - 1, by omega⟩
  rw [m_ref03_fields, form_r, Option.bind_some]
  revert this
  cases runF l (exQ l) (formK k) i fs0 with
  | ok s j =>
    intro h
    have h : ref03_fields_L0 (n + 1) l ⟨k, [], [], [], [], false, 0, 0, a⟩ (formK k) (n + 1) (i : Int) 0 [] [] [] [] false = _ := h
    rw [h]; rfl
  | bad e a' =>
    rintro ⟨X, h⟩
    have h : ref03_fields_L0 (n + 1) l ⟨k, [], [], [], [], false, 0, 0, a⟩ (formK k) (n + 1) (i : Int) 0 [] [] [] [] false = _ := h
    rw [h]; exact ⟨_, rfl⟩
theorem implD {T : Nat} {l : List Tk} (hk : Toks T l) {md : Bool} {inn i : Nat} {r : SR} (h : SE l md inn i r) : i ≤ l.length → inn ≤ 30 → match md with
    | false => ∀ (n k : Nat) (out : List St), 12 * l.length + T + 900 + 4 * (l.length - i) + 11 ≤ n → l.length - i < k → out.length ≤ i → RefS r out ((ref03_list_L0 n (m_ref03_braced n) l (inn : Int) k (i : Int) out).bind finD)
    | true => ∀ n : Nat, 12 * l.length + T + 900 + 4 * (l.length - i) + 14 ≤ n → RefS r [] (m_ref03_braced n l (i : Int) (inn : Int)) := by
  have hl := hk.len
  -- one round up to the parts
  have round : ∀ (n k i inn : Nat) (out : List St), 12 * l.length + T + 910 ≤ n → kindAt l i ≠ 0 → ∃ n', n = n' + 1 ∧ decide ((i : Int) < ((l.length : Nat) : Int)) = true ∧ m_ref02_Is n l (i : Int) [125] = some false ∧ m_ref03_kind n l (i : Int) = some (kindAt l i) ∧ (kindAt l i == 0) = false ∧ idx l (i : Int) = some (l[i]?.getD default) ∧ (l[i]?.getD default).f_At = placeF l i ∧ IntKind.i64.wrap ((i : Int) + 1) = ((i + 1 : Nat) : Int) ∧ m_ref03_block n (kindAt l i) = some (blockK (kindAt l i)) := by
    intro n k i inn out hn h0
    have hlt := kindAt_lt h0
    obtain ⟨n, rfl⟩ : ∃ j, n = j + 1 := ⟨n - 1, by omega⟩
    refine ⟨n, rfl, by simpa using hlt, by rw [is_r, kindAt_sign h0], kind_r (by omega), by rw [beq_eq_false_iff_ne]; exact h0, by rw [idx_get hlt, List.getElem?_eq_getElem hlt]; rfl, by rw [List.getElem?_eq_getElem hlt, hk.at' hlt]; rfl, wrap_one i (by omega), block_r n _⟩
  induction h with
  | @stop inn i h1 =>
    intro hi hn n k out hf hkk ho
    obtain ⟨k, rfl⟩ : ∃ j, k = j + 1 := ⟨k - 1, by omega⟩
    obtain ⟨n, rfl⟩ : ∃ j, n = j + 1 := ⟨n - 1, by omega⟩
    rw [ref03_list_L0, is_r]
    show _ = some (out ++ [], (i : Int), 0, 0)
    rw [List.append_nil]
    by_cases h2 : i < l.length
    · rw [bif_decide (by omega), (h1.resolve_left (by omega))]; rfl
    · rw [bif_not (by omega)]; rfl
  | @no inn i h1 h2 h3 =>
    intro hi hn n k out hf hkk ho
    obtain ⟨k, rfl⟩ : ∃ j, k = j + 1 := ⟨k - 1, by omega⟩
    obtain ⟨n, rfl⟩ : ∃ j, n = j + 1 := ⟨n - 1, by omega⟩
    rw [ref03_list_L0, is_r, h2, kind_r (by omega), h3, bif_decide (by omega), idx_get h1, hk.at' h1]; rfl
  | @fbad inn i e a h1 h2 =>
    intro hi hn n k out hf hkk ho
    obtain ⟨k, rfl⟩ : ∃ j, k = j + 1 := ⟨k - 1, by omega⟩
    obtain ⟨n', rfl, a1, a2, a3, a4, a5, a6, a7, a8⟩ := round n k i inn out (by omega) h1
    have hne : e ≠ 0 := by
      have := runF_ok hk (formK (kindAt l i)) (i + 1) fs0 (kindAt_lt h1)
      rw [h2] at this; exact this
    have hb : (e != 0) = true := by rw [bne_iff_ne]; exact hne
    have hx := fieldsD hk (n := n' + 1) (by omega) (kindAt_lt h1) (kindAt l i) (placeF l i)
    rw [h2] at hx
    obtain ⟨X, hx⟩ := hx
    rw [ref03_list_L0, a1, cond_true, a2, Option.bind_some, cond_false, a3, Option.bind_some, a4, cond_false, a5, Option.bind_some, a6, a7, hx, Option.bind_some]
    simp only [hb, cond_true]; rfl
  | @simple inn i j s r h1 h2 h3 h4 ih =>
    intro hi hn n k out hf hkk ho
    obtain ⟨k, rfl⟩ : ∃ j, k = j + 1 := ⟨k - 1, by omega⟩
    have h5 := runF_le hk (kindAt_lt h1) h3
    have hlt := kindAt_lt h1
    have h6 := ih h5.2 hn n k (out ++ [mkS (kindAt l i) s 0 0 (placeF l i)]) (by omega) (by omega) (by simp; omega)
    obtain ⟨n', rfl, a1, a2, a3, a4, a5, a6, a7, a8⟩ := round n k i inn out (by omega) h1
    have hx := fieldsD hk (n := n' + 1) (by omega) hlt (kindAt l i) (placeF l i)
    rw [h3] at hx
    have hx : m_ref03_fields (n' + 1) l ((i + 1 : Nat) : Int) _ = _ := hx
    have h10 : (kindAt l i == 10) = false := by
      cases hq : kindAt l i == 10 with
      | false => rfl
      | true => rw [blockK, hq] at h2; cases h2
    rw [ref03_list_L0, a1, cond_true, a2, Option.bind_some, cond_false, a3, Option.bind_some, a4, cond_false, a5, Option.bind_some, a6, a7, hx, Option.bind_some]
    simp only [bne_self_eq_false, cond_false, a8, Option.bind_some, h2, h10, List.length_append, List.length_singleton, Nat.add_zero]
    rw [bif_decide (by omega), bif_decide (by omega), bif_decide (by omega)]
    exact refS_cons h6
  | @bbad inn i j s e a h1 h2 h3 h4 ih =>
    intro hi hn n k out hf hkk ho
    obtain ⟨k, rfl⟩ : ∃ j, k = j + 1 := ⟨k - 1, by omega⟩
    have h5 := runF_le hk (kindAt_lt h1) h3
    have hlt := kindAt_lt h1
    have h6 : m_ref03_braced n l (j : Int) (inn : Int) = some ([], 0, e, a) := ih h5.2 hn n (by omega)
    have hb : (e != 0) = true := by rw [bne_iff_ne]; exact SE_ok hk h4 h5.2
    obtain ⟨n', rfl, a1, a2, a3, a4, a5, a6, a7, a8⟩ := round n k i inn out (by omega) h1
    have hx := fieldsD hk (n := n' + 1) (by omega) hlt (kindAt l i) (placeF l i)
    rw [h3] at hx
    have hx : m_ref03_fields (n' + 1) l ((i + 1 : Nat) : Int) _ = _ := hx
    rw [ref03_list_L0, a1, cond_true, a2, Option.bind_some, cond_false, a3, Option.bind_some, a4, cond_false, a5, Option.bind_some, a6, a7, hx, Option.bind_some]
    simp only [bne_self_eq_false, cond_false, a8, Option.bind_some, h2, cond_true, h6, hb]
    rfl
  | @blk inn i j j2 s b r h1 h2 h3 h4 h5 h6 ih1 ih2 =>
    intro hi hn n k out hf hkk ho
    obtain ⟨k, rfl⟩ : ∃ j, k = j + 1 := ⟨k - 1, by omega⟩
    have h7 := runF_le hk (kindAt_lt h1) h3
    have hlt := kindAt_lt h1
    have h8 := SE_ok hk h4 h7.2
    simp only [SRok, if_true] at h8
    have h9 : m_ref03_braced n l (j : Int) (inn : Int) = some ([] ++ b, (j2 : Int), 0, 0) := ih1 h7.2 hn n (by omega)
    rw [List.nil_append] at h9
    have h10 := ih2 h8.2.1 hn n k (out ++ (mkS (kindAt l i) s b.length 0 (placeF l i) :: b)) (by omega) (by omega) (by simp; omega)
    obtain ⟨n', rfl, a1, a2, a3, a4, a5, a6, a7, a8⟩ := round n k i inn out (by omega) h1
    have hx := fieldsD hk (n := n' + 1) (by omega) hlt (kindAt l i) (placeF l i)
    rw [h3] at hx
    have hx : m_ref03_fields (n' + 1) l ((i + 1 : Nat) : Int) _ = _ := hx
    rw [ref03_list_L0, a1, cond_true, a2, Option.bind_some, cond_false, a3, Option.bind_some, a4, cond_false, a5, Option.bind_some, a6, a7, hx, Option.bind_some]
    simp only [bne_self_eq_false, cond_false, a8, Option.bind_some, h2, cond_true, h9, else_ite]
    have hel : (kindAt l i == 10) = true → isElse l j2 = false := fun h => h5 (by simpa using h)
    have hrest : RefS (consR (mkS (kindAt l i) s b.length 0 (placeF l i) :: b) r) out ((ref03_list_L0 (n' + 1) (m_ref03_braced (n' + 1)) l (inn : Int) k (j2 : Int) ((out ++ [⟨kindAt l i, s.reg, s.loc, s.e, s.f, s.ne, ((b.length : Nat) : Int), 0, placeF l i⟩]) ++ b)).bind finD) := by
      refine refS_cons ?_
      rw [List.append_assoc, List.singleton_append]; exact h10
    have s1 : decide ((out.length + 1) * 121 ≤ 140737488355328) = true := by simp; omega
    have s2 : decide ((out.length + 1 + b.length) * 121 ≤ 140737488355328) = true := by simp; omega
    simp only [List.length_append, List.length_singleton, Nat.add_zero, s1, s2, cond_true]
    cases hq : kindAt l i == 10 with
    | true => rw [cond_true, hel hq, cond_false]; exact hrest
    | false => rw [cond_false]; exact hrest
  | @ebad inn i j j2 s b e a h1 h3 h4 h5 h6 ih1 ih2 =>
    intro hi hn n k out hf hkk ho
    obtain ⟨k, rfl⟩ : ∃ j, k = j + 1 := ⟨k - 1, by omega⟩
    have h0 : kindAt l i ≠ 0 := by omega
    have h7 := runF_le hk (kindAt_lt h0) h3
    have hlt := kindAt_lt h0
    have hj := isElse_lt h5
    have h8 := SE_ok hk h4 h7.2
    simp only [SRok, if_true] at h8
    have h9 : m_ref03_braced n l (j : Int) (inn : Int) = some ([] ++ b, (j2 : Int), 0, 0) := ih1 h7.2 hn n (by omega)
    rw [List.nil_append] at h9
    have h10 : m_ref03_braced n l ((j2 + 1 : Nat) : Int) (inn : Int) = some ([], 0, e, a) := ih2 hj hn n (by omega)
    have hb : (e != 0) = true := by rw [bne_iff_ne]; exact SE_ok hk h6 hj
    obtain ⟨n', rfl, a1, a2, a3, a4, a5, a6, a7, a8⟩ := round n k i inn out (by omega) h0
    have hx := fieldsD hk (n := n' + 1) (by omega) hlt (kindAt l i) (placeF l i)
    rw [h3] at hx
    have hx : m_ref03_fields (n' + 1) l ((i + 1 : Nat) : Int) _ = _ := hx
    have hbl : blockK (kindAt l i) = true := by rw [h1]; rfl
    have hq : (kindAt l i == 10) = true := by rw [h1]; rfl
    rw [ref03_list_L0, a1, cond_true, a2, Option.bind_some, cond_false, a3, Option.bind_some, a4, cond_false, a5, Option.bind_some, a6, a7, hx, Option.bind_some]
    simp only [bne_self_eq_false, cond_false, a8, Option.bind_some, hbl, cond_true, h9, else_ite, hq, h5, wrap_one j2 (show j2 < 4611686018427387904 by omega), h10, hb]
    rfl
  | @els inn i j j2 j3 s b c r h1 h3 h4 h5 h6 h7 ih1 ih2 ih3 =>
    intro hi hn n k out hf hkk ho
    obtain ⟨k, rfl⟩ : ∃ j, k = j + 1 := ⟨k - 1, by omega⟩
    have h0 : kindAt l i ≠ 0 := by omega
    have h8 := runF_le hk (kindAt_lt h0) h3
    have hlt := kindAt_lt h0
    have hj := isElse_lt h5
    have h9 := SE_ok hk h4 h8.2
    simp only [SRok, if_true] at h9
    have h9' := SE_ok hk h6 hj
    simp only [SRok, if_true] at h9'
    have h10 : m_ref03_braced n l (j : Int) (inn : Int) = some ([] ++ b, (j2 : Int), 0, 0) := ih1 h8.2 hn n (by omega)
    rw [List.nil_append] at h10
    have h11 : m_ref03_braced n l ((j2 + 1 : Nat) : Int) (inn : Int) = some ([] ++ c, (j3 : Int), 0, 0) := ih2 hj hn n (by omega)
    rw [List.nil_append] at h11
    have h12 := ih3 h9'.2.1 hn n k (out ++ (mkS (kindAt l i) s b.length c.length (placeF l i) :: (b ++ c))) (by omega) (by omega) (by simp; omega)
    obtain ⟨n', rfl, a1, a2, a3, a4, a5, a6, a7, a8⟩ := round n k i inn out (by omega) h0
    have hx := fieldsD hk (n := n' + 1) (by omega) hlt (kindAt l i) (placeF l i)
    rw [h3] at hx
    have hx : m_ref03_fields (n' + 1) l ((i + 1 : Nat) : Int) _ = _ := hx
    have hbl : blockK (kindAt l i) = true := by rw [h1]; rfl
    have hq : (kindAt l i == 10) = true := by rw [h1]; rfl
    rw [ref03_list_L0, a1, cond_true, a2, Option.bind_some, cond_false, a3, Option.bind_some, a4, cond_false, a5, Option.bind_some, a6, a7, hx, Option.bind_some]
    have s1 : decide ((out.length + 1) * 121 ≤ 140737488355328) = true := by simp; omega
    have s2 : decide ((out.length + 1 + b.length) * 121 ≤ 140737488355328) = true := by simp; omega
    have s3 : decide ((out.length + 1 + b.length + c.length) * 121 ≤ 140737488355328) = true := by simp; omega
    simp only [bne_self_eq_false, cond_false, a8, Option.bind_some, hbl, cond_true, h10, else_ite, hq, h5, wrap_one j2 (show j2 < 4611686018427387904 by omega), h11, List.length_append, List.length_singleton, s1, s2, s3]
    refine refS_cons ?_
    rw [List.append_assoc, List.append_assoc, List.singleton_append]; exact h12
  | @nob inn i h1 =>
    intro hi hn n hf
    obtain ⟨n, rfl⟩ : ∃ j, n = j + 3 := ⟨n - 3, by omega⟩
    rw [m_ref03_braced, is_r, h1, Option.bind_some, cond_false, wrong_r n l i (by omega)]; rfl
  | @deep inn i h1 h2 =>
    intro hi hn n hf
    have hlt := isS_lt h1
    obtain ⟨n, rfl⟩ : ∃ j, n = j + 3 := ⟨n - 3, by omega⟩
    rw [m_ref03_braced, is_r, h1, Option.bind_some, cond_true, bif_decide (by omega), idx_get hlt, hk.at' hlt]; rfl
  | @sbad inn i e a h1 h2 h3 ih =>
    intro hi hn n hf
    have hlt := isS_lt h1
    obtain ⟨n, rfl⟩ : ∃ j, n = j + 4 := ⟨n - 4, by omega⟩
    have h4 := ih hlt (by omega) (n + 2) (n + 2) [] (by omega) (by omega) (by simp)
    have h5 : m_ref03_list (n + 3) l ((i + 1 : Nat) : Int) ((inn + 1 : Nat) : Int) = some ([], 0, e, a) := by rw [m_ref03_list]; exact h4
    have hb : (e != 0) = true := by rw [bne_iff_ne]; exact SE_ok hk h3 hlt
    rw [m_ref03_braced, is_r, h1, Option.bind_some, cond_true, bif_not (by omega), wrap_one i (by omega), wrap_one inn (by omega), h5, Option.bind_some]
    simp only [hb, cond_true]; rfl
  | @close inn i j x h1 h2 h3 h4 ih =>
    intro hi hn n hf
    have hlt := isS_lt h1
    have hlj := isS_lt h4
    obtain ⟨n, rfl⟩ : ∃ j, n = j + 4 := ⟨n - 4, by omega⟩
    have h6 := ih hlt (by omega) (n + 2) (n + 2) [] (by omega) (by omega) (by simp)
    have h5 : m_ref03_list (n + 3) l ((i + 1 : Nat) : Int) ((inn + 1 : Nat) : Int) = some ([] ++ x, (j : Int), 0, 0) := by rw [m_ref03_list]; exact h6
    rw [m_ref03_braced, is_r, h1, Option.bind_some, cond_true, bif_not (by omega), wrap_one i (by omega), wrap_one inn (by omega), h5, Option.bind_some]
    simp only [bne_self_eq_false, cond_false, is_r, h4, Option.bind_some, cond_true, wrap_one j (show j < 4611686018427387904 by omega)]; rfl
  | @opn inn i j x h1 h2 h3 h4 ih =>
    intro hi hn n hf
    have hlt := isS_lt h1
    obtain ⟨n, rfl⟩ : ∃ j, n = j + 4 := ⟨n - 4, by omega⟩
    have h6 := ih hlt (by omega) (n + 2) (n + 2) [] (by omega) (by omega) (by simp)
    have h5 : m_ref03_list (n + 3) l ((i + 1 : Nat) : Int) ((inn + 1 : Nat) : Int) = some ([] ++ x, (j : Int), 0, 0) := by rw [m_ref03_list]; exact h6
    rw [m_ref03_braced, is_r, h1, Option.bind_some, cond_true, bif_not (by omega), wrap_one i (by omega), wrap_one inn (by omega), h5, Option.bind_some]
    simp only [bne_self_eq_false, cond_false, is_r, h4, Option.bind_some, wrong_r (n + 1) l j (show l.length < 1000000 by omega)]; rfl
end Go.Proofs.YtonhmholnneaaaaGreat
end
section
namespace Go.Proofs.YtonhmholnneaaaaGreat
set_option linter.unusedVariables false
set_option linter.unusedSimpArgs false
set_option maxRecDepth 10000
theorem ise_s (n : Nat) (l : List Tk) (i : Nat) (a b : Int) (m : Mp) : m_stmt_parser_is (n + 1) 1 [101, 108, 115, 101] l (i : Int) a b m = some (isElse l i) := by
  rw [m_stmt_parser_is]
  by_cases h : i < l.length
  · rw [bif_decide (by omega), idx_get h, Option.bind_some, Option.bind_some]
    unfold isElse
    rw [List.getElem?_eq_getElem h]
    dsimp only
    cases l[i].f_Kind == 1 <;> simp
  · rw [bif_not (by omega)]
    unfold isElse
    rw [List.getElem?_eq_none (by omega)]
theorem of_s (n : Nat) {k : Int} (h0 : 0 ≤ k) (h1 : k ≤ 13) : ∃ w, m_stmt_of (n + 2) k = some (if k = 0 then (⟨[], [], false, false⟩, false) else (⟨w, formK k, blockK k, k == 10⟩, true)) := by
  have c : k = 0 ∨ k = 1 ∨ k = 2 ∨ k = 3 ∨ k = 4 ∨ k = 5 ∨ k = 6 ∨ k = 7 ∨ k = 8 ∨ k = 9 ∨ k = 10 ∨ k = 11 ∨ k = 12 ∨ k = 13 := by omega
  rcases c with rfl | rfl | rfl | rfl | rfl | rfl | rfl | rfl | rfl | rfl | rfl | rfl | rfl | rfl <;> first | exact ⟨[], rfl⟩ | exact ⟨_, rfl⟩
theorem one_no {l : List Tk} {n i : Nat} {inn : Int} (hl : l.length < 1000000) (hi : i < l.length) (hk : kindAt l i = 0) : m_stmt_parser_one (n + 5) inn l (i : Int) 0 0 wordsM = some ([], (i : Int), 5, placeF l i) := by
  have hd : decide ((i : Int) < ((l.length : Nat) : Int)) = true := by simpa using hi
  have he : errF l i = 5 := by unfold errF; rw [if_pos hi]
  obtain ⟨w, hof⟩ := of_s (n + 2) (k := 0) (by decide) (by decide)
  rw [if_pos rfl] at hof
  have hkk := hk
  unfold kindAt at hk
  rw [List.getElem?_eq_getElem hi] at hk
  dsimp only at hk
  rw [m_stmt_parser_one, hd, cond_true, idx_get hi, Option.bind_some]
  by_cases h1 : l[i].f_Kind = 1
  · rw [if_pos h1] at hk
    have hk : mget wordsM l[i].f_Text 0 = 0 := hk
    rw [h1, beq_self_eq_true, cond_true, Option.bind_some, hk, hof, Option.bind_some, cond_false, fail_s (n + 2) l i wordsM hl, he]; rfl
  · rw [show (l[i].f_Kind == 1) = false by rw [beq_eq_false_iff_ne]; exact h1, cond_false, show m_stmt_of_1 (n + 4) = some ⟨[], [], false, false⟩ from rfl, Option.bind_some, fail_s (n + 2) l i wordsM hl, he]; rfl
theorem list_err {l : List Tk} {n : Nat} {inn i e a : Int} (m : Mp) (he : e ≠ 0) : m_stmt_parser_list (n + 2) inn l i e a m = some ([], i, e, a) := by
  rw [m_stmt_parser_list, stmt_parser_list_L0, show (e == 0) = false by rw [beq_eq_false_iff_ne]; exact he]; rfl
theorem block_err {l : List Tk} {n : Nat} {inn i e a : Int} (m : Mp) (he : e ≠ 0) : m_stmt_parser_block (n + 4) inn l i e a m = some ([], i, e, a) := by
  rw [m_stmt_parser_block, show (e == 0) = false by rw [beq_eq_false_iff_ne]; exact he, cond_false, sign_err _ _ _ _ _ _ _ he, Option.bind_some]
  dsimp only
  rw [list_err m he, Option.bind_some]
  dsimp only
  rw [sign_err _ _ _ _ _ _ _ he]; rfl
noncomputable def tailS (n : Nat) (inn : Int) (l : List Tk) (K P : Int) (o : LR (Int × Int × Int × (List UInt8) × (List UInt8) × (List Nd) × (List Nd) × Bool) SRes) : Option SRes := match o with
  | .out (x73, x74, x75, x76, x77, x78, x79, x80) =>
    bif blockK K then ((m_stmt_parser_block n inn l x73 x74 x75 wordsM).bind fun y82 =>
      bif K == 10 then (bif y82.2.2.1 == 0 then ((m_stmt_parser_is n 1 [101, 108, 115, 101] l y82.2.1 y82.2.2.1 y82.2.2.2 wordsM).bind fun y86 =>
        bif y86 then ((m_stmt_parser_block n inn l (IntKind.i64.wrap (y82.2.1 + 1)) y82.2.2.1 y82.2.2.2 wordsM).bind fun y89 =>
          (bif decide ((([(⟨K, x76, x77, x78, x79, x80, ((y82.1.length : Nat) : Int), ((y89.1.length : Nat) : Int), P⟩ : St)] : List St).length + y82.1.length) * 121 ≤ 140737488355328) then (bif decide (((([(⟨K, x76, x77, x78, x79, x80, ((y82.1.length : Nat) : Int), ((y89.1.length : Nat) : Int), P⟩ : St)] : List St) ++ y82.1).length + y89.1.length) * 121 ≤ 140737488355328) then some ((([(⟨K, x76, x77, x78, x79, x80, ((y82.1.length : Nat) : Int), ((y89.1.length : Nat) : Int), P⟩ : St)] : List St) ++ y82.1) ++ y89.1, y89.2.1, y89.2.2.1, y89.2.2.2) else none) else none))
        else (bif decide ((([(⟨K, x76, x77, x78, x79, x80, ((y82.1.length : Nat) : Int), 0, P⟩ : St)] : List St).length + y82.1.length) * 121 ≤ 140737488355328) then (bif decide (((([(⟨K, x76, x77, x78, x79, x80, ((y82.1.length : Nat) : Int), 0, P⟩ : St)] : List St) ++ y82.1).length + 0) * 121 ≤ 140737488355328) then some (([(⟨K, x76, x77, x78, x79, x80, ((y82.1.length : Nat) : Int), 0, P⟩ : St)] : List St) ++ y82.1, y82.2.1, y82.2.2.1, y82.2.2.2) else none) else none))
       else (bif decide ((([(⟨K, x76, x77, x78, x79, x80, ((y82.1.length : Nat) : Int), 0, P⟩ : St)] : List St).length + y82.1.length) * 121 ≤ 140737488355328) then (bif decide (((([(⟨K, x76, x77, x78, x79, x80, ((y82.1.length : Nat) : Int), 0, P⟩ : St)] : List St) ++ y82.1).length + 0) * 121 ≤ 140737488355328) then some (([(⟨K, x76, x77, x78, x79, x80, ((y82.1.length : Nat) : Int), 0, P⟩ : St)] : List St) ++ y82.1, y82.2.1, y82.2.2.1, y82.2.2.2) else none) else none))
      else (bif decide ((([(⟨K, x76, x77, x78, x79, x80, ((y82.1.length : Nat) : Int), 0, P⟩ : St)] : List St).length + y82.1.length) * 121 ≤ 140737488355328) then (bif decide (((([(⟨K, x76, x77, x78, x79, x80, ((y82.1.length : Nat) : Int), 0, P⟩ : St)] : List St) ++ y82.1).length + 0) * 121 ≤ 140737488355328) then some (([(⟨K, x76, x77, x78, x79, x80, ((y82.1.length : Nat) : Int), 0, P⟩ : St)] : List St) ++ y82.1, y82.2.1, y82.2.2.1, y82.2.2.2) else none) else none))
    else some ([(⟨K, x76, x77, x78, x79, x80, 0, 0, P⟩ : St)], x73, x74, x75)
  | .ret v => some v
theorem block10 {K : Int} (h : blockK K = false) : (K == 10) = false := by
  cases hq : K == 10 with
  | false => rfl
  | true => rw [blockK, hq] at h; cases h
theorem one_yes {l : List Tk} {n i : Nat} {inn : Int} (hl : l.length < 1000000) (h0 : kindAt l i ≠ 0) : ∃ (t : Tk) (w : List UInt8), m_stmt_parser_one (n + 5) inn l (i : Int) 0 0 wordsM = (stmt_parser_one_L0 (n + 4) l wordsM t (⟨w, formK (kindAt l i), blockK (kindAt l i), kindAt l i == 10⟩, true) (placeF l i) (n + 4) 0 ((i + 1 : Nat) : Int) 0 0 [] [] [] [] false).bind (tailS (n + 4) inn l (kindAt l i) (placeF l i)) := by
  have hi := kindAt_lt h0
  have hd : decide ((i : Int) < ((l.length : Nat) : Int)) = true := by simpa using hi
  obtain ⟨k0, k1⟩ := kindAt_in l i
  obtain ⟨w, hof⟩ := of_s (n + 2) k0 k1
  rw [if_neg h0] at hof
  have h1 : l[i].f_Kind = 1 := by
    by_cases h : l[i].f_Kind = 1
    · exact h
    · unfold kindAt at h0; rw [List.getElem?_eq_getElem hi] at h0; dsimp only at h0; rw [if_neg h] at h0; exact absurd rfl h0
  have hm : mget wordsM l[i].f_Text 0 = kindAt l i := by unfold kindAt; rw [List.getElem?_eq_getElem hi]; dsimp only; rw [if_pos h1]; rfl
  refine ⟨l[i], w, ?_⟩
  rw [m_stmt_parser_one, hd, cond_true, idx_get hi, Option.bind_some, h1, beq_self_eq_true, cond_true, Option.bind_some, hm, hof, Option.bind_some]
  dsimp only
  rw [cond_true, place_s (n + 3) l i _ _ _ wordsM hl, Option.bind_some, wrap_one i (by omega)]
  rw [show inlF (n + 4) = fun f => f (n + 3) from rfl]
  dsimp only
  congr 1
  funext o
  cases o with
  | ret v => rfl
  | out x =>
    obtain ⟨x73, x74, x75, x76, x77, x78, x79, x80⟩ := x
    dsimp only [tailS]
    cases hb : blockK (kindAt l i) with
    | true => rfl
    | false => rw [block10 hb]; rfl
end Go.Proofs.YtonhmholnneaaaaGreat
end
section
namespace Go.Proofs.YtonhmholnneaaaaGreat
set_option linter.unusedVariables false
set_option linter.unusedSimpArgs false
set_option maxRecDepth 10000
theorem fieldsP {T : Nat} {l : List Tk} (hk : Toks T l) {n i : Nat} (hn : 12 * l.length + T + 900 ≤ n) (hi : i ≤ l.length) (t : Tk) (w : List UInt8) (K P : Int) :
    match runF l (exQ l) (formK K) i fs0 with
    | .ok s j => stmt_parser_one_L0 n l wordsM t (⟨w, formK K, blockK K, K == 10⟩, true) P n 0 (i : Int) 0 0 [] [] [] [] false = some (.out ((j : Int), 0, 0, s.reg, s.loc, s.e, s.f, s.ne))
    | .bad e a => ∃ (i' : Int) (s : Fs), stmt_parser_one_L0 n l wordsM t (⟨w, formK K, blockK K, K == 10⟩, true) P n 0 (i : Int) 0 0 [] [] [] [] false = some (.out (i', e, a, s.reg, s.loc, s.e, s.f, s.ne)) := by
  have hf := form_len K
  exact fields_s hk hn wordsM t (⟨w, formK K, blockK K, K == 10⟩, true) P (formK K) [] i n fs0 (by rw [List.nil_append]) hi (by rw [List.nil_append]; omega) (by omega)
theorem loop_step {l : List Tk} {n k i : Nat} {inn : Int} {out X : List St} {p e a : Int} (h0 : i < l.length) (h1 : isSg l i [125] = false) (h : m_stmt_parser_one (n + 1) inn l (i : Int) 0 0 wordsM = some (X, p, e, a)) (hs : out.length + X.length < 1000000000) :
    stmt_parser_list_L0 (n + 1) (m_stmt_parser_one (n + 1)) inn l wordsM (k + 1) (i : Int) 0 0 out = stmt_parser_list_L0 (n + 1) (m_stmt_parser_one (n + 1)) inn l wordsM k p e a (out ++ X) := by
  rw [stmt_parser_list_L0, beq_self_eq_true, cond_true, bif_decide (by omega), is_s, h1, Option.bind_some, cond_false, h, Option.bind_some]
  dsimp only
  rw [bif_decide (by omega)]
theorem loop_end {l : List Tk} {n k : Nat} {inn p e a : Int} {out : List St} (he : e ≠ 0) : stmt_parser_list_L0 n (m_stmt_parser_one n) inn l wordsM (k + 1) p e a out = some (.out (p, e, a, out)) := by
  rw [stmt_parser_list_L0, show (e == 0) = false by rw [beq_eq_false_iff_ne]; exact he, cond_false]
theorem implP {T : Nat} {l : List Tk} (hk : Toks T l) {md : Bool} {inn i : Nat} {r : SR} (h : SE l md inn i r) : i ≤ l.length → inn ≤ 30 → match md with
    | false => ∀ (n k : Nat) (out : List St), 12 * l.length + T + 900 + 6 * (l.length - i) + 20 ≤ n → l.length - i + 1 < k → out.length ≤ i → (match r with
      | .ok x tu => stmt_parser_list_L0 n (m_stmt_parser_one n) (inn : Int) l wordsM k (i : Int) 0 0 out = some (.out ((tu : Int), 0, 0, out ++ x))
      | .bad e a => ∃ (X : List St) (p : Int), stmt_parser_list_L0 n (m_stmt_parser_one n) (inn : Int) l wordsM k (i : Int) 0 0 out = some (.out (p, e, a, X)) ∧ X.length ≤ out.length + 2 * (l.length - i) + 2)
    | true => ∀ n : Nat, 12 * l.length + T + 900 + 6 * (l.length - i) + 24 ≤ n → (match r with
      | .ok x tu => m_stmt_parser_block n (inn : Int) l (i : Int) 0 0 wordsM = some (x, (tu : Int), 0, 0)
      | .bad e a => ∃ (X : List St) (p : Int), m_stmt_parser_block n (inn : Int) l (i : Int) 0 0 wordsM = some (X, p, e, a) ∧ X.length ≤ 2 * (l.length - i) + 2) := by
  have hl := hk.len
  induction h with
  | @stop inn i h1 =>
    intro hi hn n k out hf hkk ho
    obtain ⟨k, rfl⟩ : ∃ j, k = j + 1 := ⟨k - 1, by omega⟩
    obtain ⟨n, rfl⟩ : ∃ j, n = j + 1 := ⟨n - 1, by omega⟩
    show stmt_parser_list_L0 _ _ _ _ _ _ _ _ _ _ = some (LR.out ((i : Int), 0, 0, out ++ []))
    rw [List.append_nil, stmt_parser_list_L0, beq_self_eq_true, cond_true]
    by_cases h2 : i < l.length
    · rw [bif_decide (by omega), is_s, (h1.resolve_left (by omega))]; rfl
    · rw [bif_not (by omega)]
  | @no inn i h1 h2 h3 =>
    intro hi hn n k out hf hkk ho
    obtain ⟨k, rfl⟩ : ∃ j, k = j + 2 := ⟨k - 2, by omega⟩
    obtain ⟨n, rfl⟩ : ∃ j, n = j + 5 := ⟨n - 5, by omega⟩
    refine ⟨out, (i : Int), ?_, by omega⟩
    rw [loop_step (n := n + 4) h1 h2 (one_no (by omega) h1 h3) (by simp; omega), loop_end (by decide), List.append_nil]
  | @fbad inn i e a h1 h2 =>
    intro hi hn n k out hf hkk ho
    obtain ⟨k, rfl⟩ : ∃ j, k = j + 2 := ⟨k - 2, by omega⟩
    obtain ⟨n, rfl⟩ : ∃ j, n = j + 10 := ⟨n - 10, by omega⟩
    have hlt := kindAt_lt h1
    have hne : e ≠ 0 := by
      have := runF_ok hk (formK (kindAt l i)) (i + 1) fs0 hlt
      rw [h2] at this; exact this
    have hb : (e == 0) = false := by rw [beq_eq_false_iff_ne]; exact hne
    obtain ⟨t, w, ho1⟩ := one_yes (n := n + 5) (inn := (inn : Int)) (show l.length < 1000000 by omega) h1
    have hx := fieldsP hk (n := n + 9) (by omega) hlt t w (kindAt l i) (placeF l i)
    rw [h2] at hx
    obtain ⟨i', s, hx⟩ := hx
    have h5 : m_stmt_parser_one (n + 10) (inn : Int) l (i : Int) 0 0 wordsM = some ([⟨kindAt l i, s.reg, s.loc, s.e, s.f, s.ne, 0, 0, placeF l i⟩], i', e, a) := by
      rw [ho1, hx, Option.bind_some]
      dsimp only [tailS]
      rw [block_err wordsM hne]
      cases blockK (kindAt l i) <;> cases (kindAt l i == 10) <;> simp [hb]
    refine ⟨out ++ [⟨kindAt l i, s.reg, s.loc, s.e, s.f, s.ne, 0, 0, placeF l i⟩], i', ?_, ?_⟩
    · rw [loop_step (n := n + 9) hlt (kindAt_sign h1 _) h5 (by simp; omega), loop_end hne]
    · simp; omega
  | @simple inn i j s r h1 h2 h3 h4 ih =>
    intro hi hn n k out hf hkk ho
    obtain ⟨k, rfl⟩ : ∃ j, k = j + 1 := ⟨k - 1, by omega⟩
    have h5 := runF_le hk (kindAt_lt h1) h3
    have hlt := kindAt_lt h1
    have h6 := ih h5.2 hn n k (out ++ [mkS (kindAt l i) s 0 0 (placeF l i)]) (by omega) (by omega) (by simp; omega)
    obtain ⟨n, rfl⟩ : ∃ j, n = j + 10 := ⟨n - 10, by omega⟩
    obtain ⟨t, w, ho1⟩ := one_yes (n := n + 5) (inn := (inn : Int)) (show l.length < 1000000 by omega) h1
    have hx := fieldsP hk (n := n + 9) (by omega) hlt t w (kindAt l i) (placeF l i)
    rw [h3] at hx
    have hx : stmt_parser_one_L0 (n + 9) l wordsM t _ (placeF l i) (n + 9) 0 ((i + 1 : Nat) : Int) 0 0 [] [] [] [] false = _ := hx
    have h7 : m_stmt_parser_one (n + 10) (inn : Int) l (i : Int) 0 0 wordsM = some ([mkS (kindAt l i) s 0 0 (placeF l i)], (j : Int), 0, 0) := by
      rw [ho1, hx, Option.bind_some]
      dsimp only [tailS]
      rw [h2]; rfl
    rw [loop_step (n := n + 9) hlt (kindAt_sign h1 _) h7 (by simp; omega)]
    cases r with
    | ok x tu => dsimp only [consR] at h6 ⊢; rw [h6, List.append_assoc]
    | bad e a =>
      obtain ⟨X, p, g1, g2⟩ := h6
      exact ⟨X, p, g1, by simp at g2; omega⟩
  | @bbad inn i j s e a h1 h2 h3 h4 ih =>
    intro hi hn n k out hf hkk ho
    obtain ⟨k, rfl⟩ : ∃ j, k = j + 2 := ⟨k - 2, by omega⟩
    have h5 := runF_le hk (kindAt_lt h1) h3
    have hlt := kindAt_lt h1
    have hne : e ≠ 0 := SE_ok hk h4 h5.2
    have hb : (e == 0) = false := by rw [beq_eq_false_iff_ne]; exact hne
    obtain ⟨n, rfl⟩ : ∃ j, n = j + 10 := ⟨n - 10, by omega⟩
    obtain ⟨X, p, g1, g2⟩ := ih h5.2 hn (n + 9) (by omega)
    obtain ⟨t, w, ho1⟩ := one_yes (n := n + 5) (inn := (inn : Int)) (show l.length < 1000000 by omega) h1
    have hx := fieldsP hk (n := n + 9) (by omega) hlt t w (kindAt l i) (placeF l i)
    rw [h3] at hx
    have hx : stmt_parser_one_L0 (n + 9) l wordsM t _ (placeF l i) (n + 9) 0 ((i + 1 : Nat) : Int) 0 0 [] [] [] [] false = _ := hx
    have h7 : m_stmt_parser_one (n + 10) (inn : Int) l (i : Int) 0 0 wordsM = some (mkS (kindAt l i) s X.length 0 (placeF l i) :: X, p, e, a) := by
      rw [ho1, hx, Option.bind_some]
      dsimp only [tailS]
      rw [h2, cond_true, g1, Option.bind_some]
      dsimp only
      rw [hb, cond_false, bif_decide (by simp; omega), bif_decide (by simp; omega)]
      cases (kindAt l i == 10) <;> rfl
    refine ⟨out ++ (mkS (kindAt l i) s X.length 0 (placeF l i) :: X), p, ?_, ?_⟩
    · rw [loop_step (n := n + 9) hlt (kindAt_sign h1 _) h7 (by simp; omega), loop_end hne]
    · simp; omega
  | @blk inn i j j2 s b r h1 h2 h3 h4 h5 h6 ih1 ih2 =>
    intro hi hn n k out hf hkk ho
    obtain ⟨k, rfl⟩ : ∃ j, k = j + 1 := ⟨k - 1, by omega⟩
    have h7 := runF_le hk (kindAt_lt h1) h3
    have hlt := kindAt_lt h1
    have h8 := SE_ok hk h4 h7.2
    simp only [SRok, if_true] at h8
    have h10 := ih2 h8.2.1 hn n k (out ++ (mkS (kindAt l i) s b.length 0 (placeF l i) :: b)) (by omega) (by omega) (by simp; omega)
    obtain ⟨n, rfl⟩ : ∃ j, n = j + 10 := ⟨n - 10, by omega⟩
    have g1 : m_stmt_parser_block (n + 9) (inn : Int) l (j : Int) 0 0 wordsM = some (b, (j2 : Int), 0, 0) := ih1 h7.2 hn (n + 9) (by omega)
    obtain ⟨t, w, ho1⟩ := one_yes (n := n + 5) (inn := (inn : Int)) (show l.length < 1000000 by omega) h1
    have hx := fieldsP hk (n := n + 9) (by omega) hlt t w (kindAt l i) (placeF l i)
    rw [h3] at hx
    have hx : stmt_parser_one_L0 (n + 9) l wordsM t _ (placeF l i) (n + 9) 0 ((i + 1 : Nat) : Int) 0 0 [] [] [] [] false = _ := hx
    have hel : (kindAt l i == 10) = true → isElse l j2 = false := fun h => h5 (by simpa using h)
    have h9 : m_stmt_parser_one (n + 10) (inn : Int) l (i : Int) 0 0 wordsM = some (mkS (kindAt l i) s b.length 0 (placeF l i) :: b, (j2 : Int), 0, 0) := by
      rw [ho1, hx, Option.bind_some]
      dsimp only [tailS]
      rw [h2, cond_true, g1, Option.bind_some]
      dsimp only
      rw [beq_self_eq_true, cond_true, ise_s, Option.bind_some, bif_decide (by simp; omega), bif_decide (by simp; omega)]
      cases hq : kindAt l i == 10 with
      | true => rw [hel hq]; rfl
      | false => rfl
    rw [loop_step (n := n + 9) hlt (kindAt_sign h1 _) h9 (by simp; omega)]
    cases r with
    | ok x tu => dsimp only [consR] at h10 ⊢; rw [h10, List.append_assoc]
    | bad e a =>
      obtain ⟨X, p, q1, q2⟩ := h10
      exact ⟨X, p, q1, by simp at q2; omega⟩
  | @ebad inn i j j2 s b e a h1 h3 h4 h5 h6 ih1 ih2 =>
    intro hi hn n k out hf hkk ho
    obtain ⟨k, rfl⟩ : ∃ j, k = j + 2 := ⟨k - 2, by omega⟩
    have h0 : kindAt l i ≠ 0 := by omega
    have h7 := runF_le hk (kindAt_lt h0) h3
    have hlt := kindAt_lt h0
    have hj := isElse_lt h5
    have h8 := SE_ok hk h4 h7.2
    simp only [SRok, if_true] at h8
    have hne : e ≠ 0 := SE_ok hk h6 hj
    have hbl : blockK (kindAt l i) = true := by rw [h1]; rfl
    have hq : (kindAt l i == 10) = true := by rw [h1]; rfl
    obtain ⟨n, rfl⟩ : ∃ j, n = j + 10 := ⟨n - 10, by omega⟩
    have g1 : m_stmt_parser_block (n + 9) (inn : Int) l (j : Int) 0 0 wordsM = some (b, (j2 : Int), 0, 0) := ih1 h7.2 hn (n + 9) (by omega)
    obtain ⟨X, p, g3, g4⟩ := ih2 hj hn (n + 9) (by omega)
    obtain ⟨t, w, ho1⟩ := one_yes (n := n + 5) (inn := (inn : Int)) (show l.length < 1000000 by omega) h0
    have hx := fieldsP hk (n := n + 9) (by omega) hlt t w (kindAt l i) (placeF l i)
    rw [h3] at hx
    have hx : stmt_parser_one_L0 (n + 9) l wordsM t _ (placeF l i) (n + 9) 0 ((i + 1 : Nat) : Int) 0 0 [] [] [] [] false = _ := hx
    have h9 : m_stmt_parser_one (n + 10) (inn : Int) l (i : Int) 0 0 wordsM = some (mkS (kindAt l i) s b.length X.length (placeF l i) :: (b ++ X), p, e, a) := by
      rw [ho1, hx, Option.bind_some]
      dsimp only [tailS]
      rw [hbl, cond_true, g1, Option.bind_some]
      dsimp only
      rw [hq, cond_true, beq_self_eq_true, cond_true, ise_s, h5, Option.bind_some, cond_true, wrap_one j2 (by omega), g3, Option.bind_some]
      dsimp only
      rw [bif_decide (by simp; omega), bif_decide (by simp; omega)]; rfl
    refine ⟨out ++ (mkS (kindAt l i) s b.length X.length (placeF l i) :: (b ++ X)), p, ?_, ?_⟩
    · rw [loop_step (n := n + 9) hlt (kindAt_sign h0 _) h9 (by simp; omega), loop_end hne]
    · simp; omega
  | @els inn i j j2 j3 s b c r h1 h3 h4 h5 h6 h7 ih1 ih2 ih3 =>
    intro hi hn n k out hf hkk ho
    obtain ⟨k, rfl⟩ : ∃ j, k = j + 1 := ⟨k - 1, by omega⟩
    have h0 : kindAt l i ≠ 0 := by omega
    have h8 := runF_le hk (kindAt_lt h0) h3
    have hlt := kindAt_lt h0
    have hj := isElse_lt h5
    have h9 := SE_ok hk h4 h8.2
    simp only [SRok, if_true] at h9
    have h9' := SE_ok hk h6 hj
    simp only [SRok, if_true] at h9'
    have h12 := ih3 h9'.2.1 hn n k (out ++ (mkS (kindAt l i) s b.length c.length (placeF l i) :: (b ++ c))) (by omega) (by omega) (by simp; omega)
    have hbl : blockK (kindAt l i) = true := by rw [h1]; rfl
    have hq : (kindAt l i == 10) = true := by rw [h1]; rfl
    obtain ⟨n, rfl⟩ : ∃ j, n = j + 10 := ⟨n - 10, by omega⟩
    have g1 : m_stmt_parser_block (n + 9) (inn : Int) l (j : Int) 0 0 wordsM = some (b, (j2 : Int), 0, 0) := ih1 h8.2 hn (n + 9) (by omega)
    have g3 : m_stmt_parser_block (n + 9) (inn : Int) l ((j2 + 1 : Nat) : Int) 0 0 wordsM = some (c, (j3 : Int), 0, 0) := ih2 hj hn (n + 9) (by omega)
    obtain ⟨t, w, ho1⟩ := one_yes (n := n + 5) (inn := (inn : Int)) (show l.length < 1000000 by omega) h0
    have hx := fieldsP hk (n := n + 9) (by omega) hlt t w (kindAt l i) (placeF l i)
    rw [h3] at hx
    have hx : stmt_parser_one_L0 (n + 9) l wordsM t _ (placeF l i) (n + 9) 0 ((i + 1 : Nat) : Int) 0 0 [] [] [] [] false = _ := hx
    have h10 : m_stmt_parser_one (n + 10) (inn : Int) l (i : Int) 0 0 wordsM = some (mkS (kindAt l i) s b.length c.length (placeF l i) :: (b ++ c), (j3 : Int), 0, 0) := by
      rw [ho1, hx, Option.bind_some]
      dsimp only [tailS]
      rw [hbl, cond_true, g1, Option.bind_some]
      dsimp only
      rw [hq, cond_true, beq_self_eq_true, cond_true, ise_s, h5, Option.bind_some, cond_true, wrap_one j2 (by omega), g3, Option.bind_some]
      dsimp only
      rw [bif_decide (by simp; omega), bif_decide (by simp; omega)]; rfl
    rw [loop_step (n := n + 9) hlt (kindAt_sign h0 _) h10 (by simp; omega)]
    cases r with
    | ok x tu => dsimp only [consR] at h12 ⊢; rw [h12, List.append_assoc]
    | bad e a =>
      obtain ⟨X, p, q1, q2⟩ := h12
      exact ⟨X, p, q1, by simp at q2; omega⟩
  | @nob inn i h1 =>
    intro hi hn n hf
    obtain ⟨n, rfl⟩ : ∃ j, n = j + 6 := ⟨n - 6, by omega⟩
    refine ⟨[], (i : Int), ?_, by simp⟩
    have hs : m_stmt_parser_sign (n + 5) [123] l (i : Int) 0 0 wordsM = some ((i : Int), errF l i, placeF l i) := by rw [sign_s (n + 2) _ l i wordsM (by omega), if_neg (by rw [h1]; decide)]
    rw [m_stmt_parser_block, beq_self_eq_true, cond_true, is_s, h1, Option.bind_some, cond_false, hs, Option.bind_some]
    dsimp only
    rw [list_err wordsM (err_ne l i), Option.bind_some]
    dsimp only
    rw [sign_err _ _ _ _ _ _ _ (err_ne l i)]; rfl
  | @deep inn i h1 h2 =>
    intro hi hn n hf
    obtain ⟨n, rfl⟩ : ∃ j, n = j + 6 := ⟨n - 6, by omega⟩
    refine ⟨[], (i : Int), ?_, by simp⟩
    have h7 : (7 : Int) ≠ 0 := by decide
    rw [m_stmt_parser_block, beq_self_eq_true, cond_true, is_s, h1, Option.bind_some, cond_true, bif_decide (by omega), place_s (n + 4) l i _ _ _ wordsM (by omega), Option.bind_some, sign_err _ _ _ _ _ _ _ h7, Option.bind_some]
    dsimp only
    rw [list_err wordsM h7, Option.bind_some]
    dsimp only
    rw [sign_err _ _ _ _ _ _ _ h7]; rfl
  | @sbad inn i e a h1 h2 h3 ih =>
    intro hi hn n hf
    have hlt := isS_lt h1
    obtain ⟨n, rfl⟩ : ∃ j, n = j + 6 := ⟨n - 6, by omega⟩
    have hne : e ≠ 0 := SE_ok hk h3 hlt
    have hs : m_stmt_parser_sign (n + 5) [123] l (i : Int) 0 0 wordsM = some (((i + 1 : Nat) : Int), 0, 0) := by rw [sign_s (n + 2) _ l i wordsM (by omega), if_pos h1]
    obtain ⟨X, p, g1, g2⟩ := ih hlt (by omega) (n + 4) (n + 4) [] (by omega) (by omega) (by simp)
    have h5 : m_stmt_parser_list (n + 5) ((inn + 1 : Nat) : Int) l ((i + 1 : Nat) : Int) 0 0 wordsM = some (X, p, e, a) := by rw [m_stmt_parser_list, g1]; rfl
    refine ⟨X, p, ?_, by simp at g2; omega⟩
    rw [m_stmt_parser_block, beq_self_eq_true, cond_true, is_s, h1, Option.bind_some, cond_true, bif_not (by omega), hs, Option.bind_some]
    dsimp only
    rw [wrap_one inn (by omega), h5, Option.bind_some]
    dsimp only
    rw [sign_err _ _ _ _ _ _ _ hne]; rfl
  | @close inn i j x h1 h2 h3 h4 ih =>
    intro hi hn n hf
    have hlt := isS_lt h1
    obtain ⟨n, rfl⟩ : ∃ j, n = j + 6 := ⟨n - 6, by omega⟩
    have hs : m_stmt_parser_sign (n + 5) [123] l (i : Int) 0 0 wordsM = some (((i + 1 : Nat) : Int), 0, 0) := by rw [sign_s (n + 2) _ l i wordsM (by omega), if_pos h1]
    have hs2 : m_stmt_parser_sign (n + 5) [125] l (j : Int) 0 0 wordsM = some (((j + 1 : Nat) : Int), 0, 0) := by rw [sign_s (n + 2) _ l j wordsM (by omega), if_pos h4]
    have g1 := ih hlt (by omega) (n + 4) (n + 4) [] (by omega) (by omega) (by simp)
    dsimp only at g1
    have h5 : m_stmt_parser_list (n + 5) ((inn + 1 : Nat) : Int) l ((i + 1 : Nat) : Int) 0 0 wordsM = some (x, (j : Int), 0, 0) := by rw [m_stmt_parser_list, g1]; rfl
    show m_stmt_parser_block (n + 6) _ _ _ _ _ _ = _
    rw [m_stmt_parser_block, beq_self_eq_true, cond_true, is_s, h1, Option.bind_some, cond_true, bif_not (by omega), hs, Option.bind_some]
    dsimp only
    rw [wrap_one inn (by omega), h5, Option.bind_some]
    dsimp only
    rw [hs2]; rfl
  | @opn inn i j x h1 h2 h3 h4 ih =>
    intro hi hn n hf
    have hlt := isS_lt h1
    have h8 := SE_ok hk h3 hlt
    simp only [SRok, Bool.false_eq_true, if_false] at h8
    obtain ⟨n, rfl⟩ : ∃ j, n = j + 6 := ⟨n - 6, by omega⟩
    have hs : m_stmt_parser_sign (n + 5) [123] l (i : Int) 0 0 wordsM = some (((i + 1 : Nat) : Int), 0, 0) := by rw [sign_s (n + 2) _ l i wordsM (by omega), if_pos h1]
    have hs2 : m_stmt_parser_sign (n + 5) [125] l (j : Int) 0 0 wordsM = some ((j : Int), errF l j, placeF l j) := by rw [sign_s (n + 2) _ l j wordsM (by omega), if_neg (by rw [h4]; decide)]
    have g1 := ih hlt (by omega) (n + 4) (n + 4) [] (by omega) (by omega) (by simp)
    dsimp only at g1
    have h5 : m_stmt_parser_list (n + 5) ((inn + 1 : Nat) : Int) l ((i + 1 : Nat) : Int) 0 0 wordsM = some (x, (j : Int), 0, 0) := by rw [m_stmt_parser_list, g1]; rfl
    refine ⟨x, (j : Int), ?_, by omega⟩
    rw [m_stmt_parser_block, beq_self_eq_true, cond_true, is_s, h1, Option.bind_some, cond_true, bif_not (by omega), hs, Option.bind_some]
    dsimp only
    rw [wrap_one inn (by omega), h5, Option.bind_some]
    dsimp only
    rw [hs2]; rfl
end Go.Proofs.YtonhmholnneaaaaGreat
end
section
namespace Go.Proofs.YtonhmholnneaaaaGreat
set_option linter.unusedVariables false
set_option linter.unusedSimpArgs false
set_option maxRecDepth 10000
theorem se_total {T : Nat} {l : List Tk} (hk : Toks T l) : ∀ (m i inn : Nat) (md : Bool), l.length - i ≤ m → i ≤ l.length → inn ≤ 30 → ∃ r, SE l md inn i r := by
  intro m
  induction m with
  | zero =>
    intro i inn md hm hi hn
    have hs : ∀ s, isSg l i s = false := fun s => by
      cases h : isSg l i s with
      | false => rfl
      | true => have := isS_lt h; omega
    cases md with
    | false => exact ⟨_, .stop (.inl (by omega))⟩
    | true => exact ⟨_, .nob (hs _)⟩
  | succ m ih =>
    intro i inn md hm hi hn
    cases md with
    | true =>
      cases h : isSg l i [123] with
      | false => exact ⟨_, .nob h⟩
      | true =>
        by_cases h30 : 30 ≤ inn
        · exact ⟨_, .deep h h30⟩
        · have hlt := isS_lt h
          obtain ⟨r, hr⟩ := ih (i + 1) (inn + 1) false (by omega) hlt (by omega)
          cases r with
          | bad e a => exact ⟨_, .sbad h (by omega) hr⟩
          | ok x j =>
            cases h2 : isSg l j [125] with
            | true => exact ⟨_, .close h (by omega) hr h2⟩
            | false => exact ⟨_, .opn h (by omega) hr h2⟩
    | false =>
      by_cases hlt : i < l.length
      · cases h : isSg l i [125] with
        | true => exact ⟨_, .stop (.inr h)⟩
        | false =>
          by_cases h0 : kindAt l i = 0
          · exact ⟨_, .no hlt h h0⟩
          · cases hf : runF l (exQ l) (formK (kindAt l i)) (i + 1) fs0 with
            | bad e a => exact ⟨_, .fbad h0 hf⟩
            | ok s j =>
              have hj := runF_le hk (by omega) hf
              cases hb : blockK (kindAt l i) with
              | false =>
                obtain ⟨r, hr⟩ := ih j inn false (by omega) hj.2 hn
                exact ⟨_, .simple h0 hb hf hr⟩
              | true =>
                obtain ⟨r, hr⟩ := ih j inn true (by omega) hj.2 hn
                cases r with
                | bad e a => exact ⟨_, .bbad h0 hb hf hr⟩
                | ok b j2 =>
                  have hj2 := SE_ok hk hr hj.2
                  simp only [SRok, if_true] at hj2
                  by_cases he : kindAt l i = 10 ∧ isElse l j2 = true
                  · have hj3 := isElse_lt he.2
                    obtain ⟨r3, hr3⟩ := ih (j2 + 1) inn true (by omega) hj3 hn
                    cases r3 with
                    | bad e a => exact ⟨_, .ebad he.1 hf hr he.2 hr3⟩
                    | ok c j4 =>
                      have hj4 := SE_ok hk hr3 hj3
                      simp only [SRok, if_true] at hj4
                      obtain ⟨r5, hr5⟩ := ih j4 inn false (by omega) hj4.2.1 hn
                      exact ⟨_, .els he.1 hf hr he.2 hr3 hr5⟩
                  · obtain ⟨r5, hr5⟩ := ih j2 inn false (by omega) hj2.2.1 hn
                    refine ⟨_, .blk h0 hb hf hr (fun hq => ?_) hr5⟩
                    cases hx : isElse l j2 with
                    | false => rfl
                    | true => exact absurd ⟨hq, hx⟩ he
      · exact ⟨_, .stop (.inl (by omega))⟩
def kindsL : List S_stmt_kind := match m_stmt_kinds 1 with | some y => y | none => []
theorem words_s (n k : Nat) : stmt_Parse_L0 n kindsL (k + 15) 0 [] = some (.out wordsM) := by rfl
def parseS (l : List Tk) (i : Nat) : SR → SRes
  | .bad e a => ([], 0, e, a)
  | .ok x tu => if 200 < x.length then ([], 0, 2, placeF l i) else (x, (tu : Int), 0, 0)
theorem parseS_both {T : Nat} {l : List Tk} (hk : Toks T l) {n i : Nat} (hi : i ≤ l.length) (hn : 12 * l.length + T + 900 + 6 * l.length + 60 ≤ n) : ∃ r, SE l false 0 i r ∧ m_stmt_Parse n l (i : Int) = some (parseS l i r) ∧ m_ref03_Parse n l (i : Int) = some (parseS l i r) := by
  obtain ⟨r, hr⟩ := se_total hk l.length i 0 false (by omega) hi (by omega)
  have hl := hk.len
  refine ⟨r, hr, ?_, ?_⟩
  · obtain ⟨n, rfl⟩ : ∃ j, n = j + 20 := ⟨n - 20, by omega⟩
    have h := implP hk hr hi (by omega) (n + 18) (n + 18) [] (by omega) (by omega) (by simp)
    rw [m_stmt_Parse, bif_not (by omega), bif_not (by omega), show m_stmt_kinds (n + 19) = some kindsL from rfl, Option.bind_some, words_s (n + 19) (n + 4), Option.bind_some]
    dsimp only
    cases r with
    | bad e a =>
      have hne : e ≠ 0 := SE_ok hk hr hi
      obtain ⟨X, p, g1, g2⟩ := h
      have g3 : m_stmt_parser_list (n + 19) 0 l (i : Int) 0 0 wordsM = some (X, p, e, a) := by
        rw [m_stmt_parser_list]
        have g1 : stmt_parser_list_L0 (n + 18) (m_stmt_parser_one (n + 18)) 0 l wordsM (n + 18) (i : Int) 0 0 [] = _ := g1
        rw [g1]; rfl
      rw [g3, Option.bind_some]
      dsimp only
      rw [show (e != 0) = true by rw [bne_iff_ne]; exact hne, cond_true]; rfl
    | ok x tu =>
      have g3 : m_stmt_parser_list (n + 19) 0 l (i : Int) 0 0 wordsM = some (x, (tu : Int), 0, 0) := by
        rw [m_stmt_parser_list]
        have g1 : stmt_parser_list_L0 (n + 18) (m_stmt_parser_one (n + 18)) 0 l wordsM (n + 18) (i : Int) 0 0 [] = _ := h
        rw [g1]; rfl
      rw [g3, Option.bind_some]
      dsimp only
      rw [bne_self_eq_false, cond_false]
      simp only [parseS]
      by_cases c : 200 < x.length
      · rw [if_pos c, bif_decide (by omega), place_s (n + 18) l i _ _ _ wordsM (by omega)]; rfl
      · rw [if_neg c, bif_not (by omega)]
  · obtain ⟨n, rfl⟩ : ∃ j, n = j + 20 := ⟨n - 20, by omega⟩
    have h := implD hk hr hi (by omega) (n + 18) (n + 18) [] (by omega) (by omega) (by simp)
    rw [m_ref03_Parse, bif_not (by omega), bif_not (by omega)]
    have g3 : RefS r [] (m_ref03_list (n + 19) l (i : Int) 0) := by rw [m_ref03_list]; exact h
    cases r with
    | bad e a =>
      have hne : e ≠ 0 := SE_ok hk hr hi
      have g3 : m_ref03_list (n + 19) l (i : Int) 0 = some ([], 0, e, a) := g3
      rw [g3, Option.bind_some]
      dsimp only
      rw [show (e != 0) = true by rw [bne_iff_ne]; exact hne, cond_true]; rfl
    | ok x tu =>
      have g3 : m_ref03_list (n + 19) l (i : Int) 0 = some (x, (tu : Int), 0, 0) := g3
      rw [g3, Option.bind_some]
      dsimp only
      rw [bne_self_eq_false, cond_false]
      simp only [parseS]
      by_cases c : 200 < x.length
      · rw [if_pos c, bif_decide (by omega), place_r (n + 18) l i (by omega)]; rfl
      · rw [if_neg c, bif_not (by omega)]
end Go.Proofs.YtonhmholnneaaaaGreat
end
section
namespace Go.Proofs.YtonhmholnneaaaaGreat
set_option linter.unusedVariables false
set_option linter.unusedSimpArgs false
set_option maxRecDepth 10000
theorem same2_loop (n : Nat) (a : List Nd) (hl : a.length < 1000000) : ∀ (m i k : Nat), a.length - i ≤ m → m < k → ref02_Same_L0 n a a k true (i : Int) = some (.out ()) := by
  intro m
  induction m with
  | zero =>
    intro i k h hk
    obtain ⟨k, rfl⟩ : ∃ j, k = j + 1 := ⟨k - 1, by omega⟩
    rw [ref02_Same_L0, bif_not (by omega)]
  | succ m ih =>
    intro i k h hk
    obtain ⟨k, rfl⟩ : ∃ j, k = j + 1 := ⟨k - 1, by omega⟩
    rw [ref02_Same_L0]
    by_cases hi : i < a.length
    · rw [bif_decide (by omega)]
      simp only [idx_get hi, Option.bind_some, bne_self_eq_false, cond_false, beq_self_eq_true, cond_true, wrap_one i (show i < 4611686018427387904 by omega)]
      exact ih (i + 1) k (by omega) (by omega)
    · rw [bif_not (by omega)]
theorem same2_self (n : Nat) (a : List Nd) (hl : a.length < 1000000) (hn : a.length + 2 < n) : m_ref02_Same n a a true = some true := by
  obtain ⟨n, rfl⟩ : ∃ j, n = j + 1 := ⟨n - 1, by omega⟩
  have := same2_loop n a hl a.length 0 n (by omega) (by omega)
  rw [show ((0 : Nat) : Int) = 0 from rfl] at this
  rw [m_ref02_Same, bne_self_eq_false, cond_false, this]; rfl
theorem same3_loop (n : Nat) (a : List St) (hl : a.length < 1000000) (hx : ∀ x ∈ a, x.f_E.length ≤ 200 ∧ x.f_F.length ≤ 200) (hn : 300 < n) : ∀ (m i k : Nat), a.length - i ≤ m → m < k → ref03_Same_L0 n a a k true (i : Int) = some (.out ()) := by
  intro m
  induction m with
  | zero =>
    intro i k h hk
    obtain ⟨k, rfl⟩ : ∃ j, k = j + 1 := ⟨k - 1, by omega⟩
    rw [ref03_Same_L0, bif_not (by omega)]
  | succ m ih =>
    intro i k h hk
    obtain ⟨k, rfl⟩ : ∃ j, k = j + 1 := ⟨k - 1, by omega⟩
    rw [ref03_Same_L0]
    by_cases hi : i < a.length
    · have h2 := hx a[i] (List.getElem_mem hi)
      rw [bif_decide (by omega)]
      simp only [idx_get hi, Option.bind_some, bne_self_eq_false, cond_false, beq_self_eq_true, cond_true, same2_self n a[i].f_E (by omega) (by omega), same2_self n a[i].f_F (by omega) (by omega), wrap_one i (show i < 4611686018427387904 by omega)]
      exact ih (i + 1) k (by omega) (by omega)
    · rw [bif_not (by omega)]
theorem same3_self (n : Nat) (a : List St) (hl : a.length ≤ 200) (hx : ∀ x ∈ a, x.f_E.length ≤ 200 ∧ x.f_F.length ≤ 200) (hn : 400 < n) : m_ref03_Same n a a true = some true := by
  obtain ⟨n, rfl⟩ : ∃ j, n = j + 1 := ⟨n - 1, by omega⟩
  have := same3_loop n a (by omega) hx (by omega) a.length 0 n (by omega) (by omega)
  rw [show ((0 : Nat) : Int) = 0 from rfl] at this
  rw [m_ref03_Same, bne_self_eq_false, cond_false, this]; rfl
def smallF (s : Fs) : Prop := s.e.length ≤ 200 ∧ s.f.length ≤ 200
def FRsmall : FR → Prop
  | .ok s _ => smallF s
  | .bad _ _ => True
theorem runF_small {T : Nat} {l : List Tk} (hk : Toks T l) : ∀ (cs : List UInt8) (i : Nat) (s s' : Fs) (j : Nat), i ≤ l.length → smallF s → runF l (exQ l) cs i s = .ok s' j → smallF s'
  | [], i, s, s', j, hi, hs, h => by rw [runF] at h; cases h; exact hs
  | c :: cs, i, s, s', j, hi, hs, h => by
    have h1 := stepF_ok hk (c := c) (s := s) hi
    have hex := exQ_ok hk hi
    have hst0 : FRsmall (stepF l (exQ l) c i s) := by
      unfold stepF
      refine fr_ite (Q := FRsmall) (fun _ => fr_ite (Q := FRsmall) (fun _ => hs) fun _ => trivial) fun _ => fr_ite (Q := FRsmall) (fun _ => fr_ite (Q := FRsmall) (fun _ => hs) fun _ => trivial) fun _ => fr_ite (Q := FRsmall) (fun _ => ?_) fun _ => fr_ite (Q := FRsmall) (fun _ => ?_) fun _ => fr_ite (Q := FRsmall) (fun _ => fr_ite (Q := FRsmall) (fun _ => hs) fun _ => fr_ite (Q := FRsmall) (fun _ => hs) fun _ => trivial) fun _ => fr_ite (Q := FRsmall) (fun _ => hs) fun _ => trivial
      · revert hex; cases exQ l i with
        | ok x tu => intro h; exact ⟨h.2.2, hs.2⟩
        | bad e a => intro h; trivial
      · revert hex; cases exQ l i with
        | ok x tu => intro h; exact ⟨hs.1, h.2.2⟩
        | bad e a => intro h; trivial
    have hst : ∀ s2 j2, stepF l (exQ l) c i s = .ok s2 j2 → smallF s2 := fun s2 j2 h => by rw [h] at hst0; exact hst0
    rw [runF] at h
    clear hst0
    revert h h1 hst
    cases stepF l (exQ l) c i s with
    | bad e a => intro h _ _; cases h
    | ok s2 j2 => intro h h1 hst; exact runF_small hk cs j2 s2 s' j h1.2 (hst s2 j2 rfl) h
def SmallS (x : St) : Prop := x.f_E.length ≤ 200 ∧ x.f_F.length ≤ 200
def SRsmall : SR → Prop
  | .ok x _ => ∀ y ∈ x, SmallS y
  | .bad _ _ => True
theorem small_cons {x : List St} {r : SR} (h : ∀ y ∈ x, SmallS y) (hr : SRsmall r) : SRsmall (consR x r) := by
  cases r with
  | ok z tu => intro y hy; rcases List.mem_append.1 hy with hy | hy; exact h y hy; exact hr y hy
  | bad e a => trivial
theorem SE_small {T : Nat} {l : List Tk} (hk : Toks T l) {md : Bool} {inn i : Nat} {r : SR} (h : SE l md inn i r) : i ≤ l.length → SRsmall r := by
  have s0 : smallF fs0 := ⟨by simp [fs0], by simp [fs0]⟩
  induction h with
  | stop h => intro hi y hy; cases hy
  | no h1 h2 h3 => intro hi; trivial
  | fbad h1 h2 => intro hi; trivial
  | @simple inn i j s r h1 h2 h3 h4 ih =>
    intro hi
    have h5 := runF_le hk (kindAt_lt h1) h3
    have h6 := runF_small hk _ _ _ _ _ (kindAt_lt h1) s0 h3
    exact small_cons (fun y hy => by rw [List.mem_singleton] at hy; subst hy; exact h6) (ih h5.2)
  | bbad h1 h2 h3 h4 ih => intro hi; trivial
  | @blk inn i j j2 s b r h1 h2 h3 h4 h5 h6 ih1 ih2 =>
    intro hi
    have h7 := runF_le hk (kindAt_lt h1) h3
    have h9 := runF_small hk _ _ _ _ _ (kindAt_lt h1) s0 h3
    have h8 := SE_ok hk h4 h7.2
    simp only [SRok, if_true] at h8
    exact small_cons (fun y hy => by
      rcases List.mem_cons.1 hy with rfl | hy
      · exact h9
      · exact ih1 h7.2 y hy) (ih2 h8.2.1)
  | ebad h1 h3 h4 h5 h6 ih1 ih2 => intro hi; trivial
  | @els inn i j j2 j3 s b c r h1 h3 h4 h5 h6 h7 ih1 ih2 ih3 =>
    intro hi
    have h0 : kindAt l i ≠ 0 := by omega
    have h8 := runF_le hk (kindAt_lt h0) h3
    have h9 := runF_small hk _ _ _ _ _ (kindAt_lt h0) s0 h3
    have hj := isElse_lt h5
    have h11 := SE_ok hk h6 hj
    simp only [SRok, if_true] at h11
    exact small_cons (fun y hy => by
      rcases List.mem_cons.1 hy with rfl | hy
      · exact h9
      · rcases List.mem_append.1 hy with hy | hy
        · exact ih1 h8.2 y hy
        · exact ih2 hj y hy) (ih3 h11.2.1)
  | nob h => intro hi; trivial
  | deep h1 h2 => intro hi; trivial
  | sbad h1 h2 h3 ih => intro hi; trivial
  | close h1 h2 h3 h4 ih => intro hi; exact ih (isS_lt h1)
  | opn h1 h2 h3 h4 ih => intro hi; trivial
theorem tokens03_m (n : Nat) (s : List UInt8) (hs : s.length < 1000000) (hn : s.length + 60 < n) : m_law03_tokens n s = some (toksS s) := by
  obtain ⟨n, rfl⟩ : ∃ j, n = j + 1 := ⟨n - 1, by omega⟩
  rw [m_law03_tokens, scan_m n s hs (by omega)]; rfl
theorem toks_of (s : List UInt8) (hs : s.length ≤ 90000) : Toks s.length (toksS s) := by
  obtain ⟨h1, h2⟩ := toksS_ok s
  refine ⟨by omega, fun t ht => (h1 t ht).1, fun t ht => ?_, by omega⟩
  have h3 := h1 t ht
  have h4 := h3.1.1
  omega
theorem known03c : m_law03_known 199999 = some true := by decide +kernel
theorem stmtParses_m (s : List UInt8) (i : Int) : m_law03_StmtParses 200000 s i = some true := by
  rw [m_law03_StmtParses, known03c]
  by_cases h : 2000 < s.length
  · rw [bif_decide (by omega)]; rfl
  · rw [bif_not (by omega), tokens03_m _ _ (by omega) (by omega), Option.bind_some]
    have hk := toks_of s (by omega)
    have hl := (toksS_ok s).2
    have fin : ∀ a : SRes, m_stmt_Parse 199999 (toksS s) i = some a → m_ref03_Parse 199999 (toksS s) i = some a → m_ref03_Same 199999 a.1 a.1 true = some true → _ := fun a h1 h2 h3 => by
      show ((m_stmt_Parse 199999 (toksS s) i).bind fun y6 => ((m_ref03_Parse 199999 (toksS s) i).bind fun y8 => ((m_ref03_Same 199999 y6.1 y8.1 true).bind fun y10 => (bif y10 then (bif (y6.2.1 == y8.2.1) then (bif (y6.2.2.1 == y8.2.2.1) then (bif (y6.2.2.2 == y8.2.2.2) then ((some true).bind fun y16 => some y16) else (some false)) else (some false)) else (some false)) else (some false))))) = some true
      rw [h1, h2, Option.bind_some, Option.bind_some, h3]
      simp
    by_cases h0 : i < 0
    · refine fin ([], 0, 1, 0) ?_ ?_ ?_
      · rw [m_stmt_Parse, bif_decide h0]
      · rw [m_ref03_Parse, bif_decide h0]
      · exact same3_self 199999 [] (by simp) (by simp) (by omega)
    · by_cases h1 : ((toksS s).length : Int) < i
      · refine fin ([], 0, 1, 0) ?_ ?_ ?_
        · rw [m_stmt_Parse, bif_not h0, bif_decide h1]
        · rw [m_ref03_Parse, bif_not h0, bif_decide h1]
        · exact same3_self 199999 [] (by simp) (by simp) (by omega)
      · obtain ⟨j, rfl⟩ : ∃ j : Nat, i = j := ⟨i.toNat, by omega⟩
        obtain ⟨r, hr, h2, h3⟩ := parseS_both hk (n := 199999) (show j ≤ (toksS s).length by omega) (by omega)
        refine fin _ h2 h3 ?_
        have hsm := SE_small hk hr (by omega)
        cases r with
        | bad e a => exact same3_self 199999 [] (by simp) (by simp) (by omega)
        | ok x tu =>
          simp only [parseS]
          by_cases c : 200 < x.length
          · rw [if_pos c]; exact same3_self 199999 [] (by simp) (by simp) (by omega)
          · rw [if_neg c]; exact same3_self 199999 x (by omega) hsm (by omega)
end Go.Proofs.YtonhmholnneaaaaGreat
end
section
namespace Go.Proofs.YtonhmholnneaaaaGreat
set_option linter.unusedVariables false
set_option linter.unusedSimpArgs false
set_option maxRecDepth 100000
set_option maxHeartbeats 4000000
theorem ok_ref01_gap {n:Nat} ⦃v0_s:(List UInt8)⦄ ⦃v1_at:Int⦄ ⦃r:Int⦄:m_ref01_gap n v0_s v1_at=some r→CN n 25 [sA v0_s,iA v1_at] []=some (iA r,[]):=by
 intro h;rcases n with _|n;cases h
 rw [m_ref01_gap] at h
 refine callN_eq' Tryz.func25 (by rfl) rfl rfl (Nat.le_of_ble_eq_true rfl) ?_
 intro call hc;conv=>lhs;whnf
 revert h
 intro h;refine bind_some2 h ?_;clear h;intro o9 ho9 h
 refine lq (σ:=Int) (τ:=Int) (ν:=Int) 0 (fun s1 a3=>stOf 53 [(0,sA v0_s),(1,iA s1)]) (fun s1 a3=>[]) (fun x37 a36=>stOf 53 [(1,iA x37)]) (fun x37 a36=>[]) (fun v=>(iA v,[])) (fun k s=>ref01_gap_L0 n v0_s k s) (fun s=>rfl) o9 n v1_at (fun _=>0) ho9 ?_ ?_
 intro k2 s1 a3 K4 cont5 hK6 hcont7 h hr8
 replace h:ref01_gap_L0 n v0_s (k2+1) s1=some o9:=h
 rw [ref01_gap_L0] at h
 conv=>lhs;whnf
 revert h
 refine br ?_ ?_
 refine ixs ?_;intro x11
 refine br ?_ ?_
 exact fun h=>cq (hcont7 (IntKind.i64.wrap (s1+1)) (fun _=>0) h)
 refine ixs ?_;intro x13
 refine br ?_ ?_
 exact fun h=>cq (hcont7 (IntKind.i64.wrap (s1+1)) (fun _=>0) h)
 refine ixs ?_;intro x15
 refine br ?_ ?_
 exact fun h=>cq (hcont7 (IntKind.i64.wrap (s1+1)) (fun _=>0) h)
 refine ixs ?_;intro x17
 refine br ?_ ?_
 exact fun h=>cq (hcont7 (IntKind.i64.wrap (s1+1)) (fun _=>0) h)
 refine ixs ?_;intro x19
 refine br ?_ ?_
 intro h;refine bind_some2 h ?_;clear h;intro o29 ho29 h
 refine lq (σ:=Int) (τ:=Int) (ν:=Int) 3 (fun s21 a23=>stOf 53 [(0,sA v0_s),(1,iA s21)]) (fun s21 a23=>[]) (fun x34 a33=>stOf 53 [(0,sA v0_s),(1,iA x34)]) (fun x34 a33=>[]) (fun v=>(iA v,[])) (fun k s=>ref01_gap_L1 n v0_s k s) (fun s=>rfl) o29 n s1 (fun _=>0) ho29 ?_ ?_
 intro k22 s21 a23 K24 cont25 hK26 hcont27 h hr28
 replace h:ref01_gap_L1 n v0_s (k22+1) s21=some o29:=h
 rw [ref01_gap_L1] at h
 conv=>lhs;whnf
 revert h
 refine br ?_ ?_
 refine ixs ?_;intro x31
 refine br ?_ ?_
 exact fun h=>cq (hcont27 (IntKind.i64.wrap (s21+1)) (fun _=>0) h)
 intro h;cases sj h
 exact kq (hr28 (fun _=>0))
 intro h;cases sj h
 exact kq (hr28 (fun _=>0))
 refine lrc ?_ ?_
 intro v e;subst e;cases sj h;exact hr8
 intro x34 a33 e;subst e
 dsimp only at h
 conv=>lhs;whnf
 revert h
 exact fun h=>cq (hcont7 x34 (fun _=>0) h)
 intro h;cases sj h
 refine (hK6 _ _).trans ?_
 refine Eq.trans ?_ (Eq.symm (show _=some _ from hr8))
 conv=>lhs;whnf
 exact rq
 intro h;cases sj h
 exact kq (hr8 (fun _=>0))
 refine lrc ?_ ?_
 intro v e;subst e;cases sj h;rfl
 intro x37 a36 e;subst e
 dsimp only at h
 conv=>lhs;whnf
 revert h
 exact rz
theorem ok_ref01_digit {n:Nat} ⦃v0_c:Int⦄ ⦃r:Bool⦄:m_ref01_digit n v0_c=some r→CN n 46 [AV.int .u8 v0_c] []=some (bA r,[]):=by
 intro h;rcases n with _|n;cases h
 rw [m_ref01_digit] at h
 refine callN_eq' Tryz.func46 (by rfl) rfl rfl (Nat.le_of_ble_eq_true rfl) ?_
 intro call hc;conv=>lhs;whnf
 revert h
 refine br ?_ ?_
 exact rz
 exact rz
theorem ok_ref01_letter {n:Nat} ⦃v0_c:Int⦄ ⦃r:Bool⦄:m_ref01_letter n v0_c=some r→CN n 45 [AV.int .u8 v0_c] []=some (bA r,[]):=by
 intro h;rcases n with _|n;cases h
 rw [m_ref01_letter] at h
 refine callN_eq' Tryz.func45 (by rfl) rfl rfl (Nat.le_of_ble_eq_true rfl) ?_
 intro call hc;conv=>lhs;whnf
 revert h
 refine br ?_ ?_
 refine br ?_ ?_
 exact rz
 refine br ?_ ?_
 refine br ?_ ?_
 exact rz
 exact rz
 exact rz
 refine br ?_ ?_
 refine br ?_ ?_
 exact rz
 exact rz
 exact rz
theorem ok_ref01_signs {n:Nat} ⦃r:(List (List UInt8))⦄:m_ref01_signs n=some r→CN n 47 [] []=some (AV.sl 1 (List.map encS r),[]):=by
 intro h;rcases n with _|n;cases h
 rw [m_ref01_signs] at h
 refine callN_eq' Tryz.func47 (by rfl) rfl rfl (Nat.le_of_ble_eq_true rfl) ?_
 intro call hc;conv=>lhs;whnf
 revert h
 exact rz
theorem ok_ref01_one {n:Nat} ⦃v0_s:(List UInt8)⦄ ⦃v1_at:Int⦄ ⦃r:(S_api_Token×Int)⦄:m_ref01_one n v0_s v1_at=some r→CN n 26 [sA v0_s,iA v1_at] []=some (AV.tup [AV.agg [iA r.1.f_Kind,sA r.1.f_Text,iA r.1.f_N,iA r.1.f_At],iA r.2],[]):=by
 intro h;rcases n with _|n;cases h
 rw [m_ref01_one] at h
 refine callN_eq' Tryz.func26 (by rfl) rfl rfl (Nat.le_of_ble_eq_true rfl) ?_
 intro call hc;conv=>lhs;whnf
 revert h
 intro h;refine bind_some2 h ?_;clear h;intro o9 ho9 h
 refine lq (σ:=Int) (τ:=Int) (ν:=(S_api_Token×Int)) 0 (fun s1 a3=>stOf 119 [(0,sA v0_s),(1,iA v1_at),(4,AV.ptr 0 0),(6,iA s1)]) (fun s1 a3=>[Ob.var 61 [iA (0),sA (([]:List UInt8)),iA (0),iA (0)]]) (fun x21 a20=>stOf 119 [(0,sA v0_s),(1,iA v1_at),(4,AV.ptr 0 0),(6,iA x21)]) (fun x21 a20=>[Ob.var 61 [iA (0),sA (([]:List UInt8)),iA (0),iA (0)]]) (fun v=>(AV.tup [AV.agg [iA v.1.f_Kind,sA v.1.f_Text,iA v.1.f_N,iA v.1.f_At],iA v.2],[])) (fun k s=>ref01_one_L0 n v0_s v1_at k s) (fun s=>rfl) o9 n v1_at (fun _=>0) ho9 ?_ ?_
 intro k2 s1 a3 K4 cont5 hK6 hcont7 h hr8
 replace h:ref01_one_L0 n v0_s v1_at (k2+1) s1=some o9:=h
 rw [ref01_one_L0] at h
 conv=>lhs;whnf
 revert h
 refine br ?_ ?_
 refine ixs ?_;intro x11
 refine ca hc (fun _ h=>ok_ref01_letter h) ?_;intro y12
 refine br ?_ ?_
 exact fun h=>cq (hcont7 (IntKind.i64.wrap (s1+1)) (fun _=>0) h)
 refine br ?_ ?_
 refine ixs ?_;intro x16
 refine ca hc (fun _ h=>ok_ref01_digit h) ?_;intro y17
 refine br ?_ ?_
 exact fun h=>cq (hcont7 (IntKind.i64.wrap (s1+1)) (fun _=>0) h)
 intro h;cases sj h
 exact kq (hr8 (fun _=>0))
 intro h;cases sj h
 exact kq (hr8 (fun _=>0))
 intro h;cases sj h
 exact kq (hr8 (fun _=>0))
 refine lrc ?_ ?_
 intro v e;subst e;cases sj h;rfl
 intro x21 a20 e;subst e
 dsimp only at h
 conv=>lhs;whnf
 revert h
 refine br ?_ ?_
 refine br ?_ ?_
 exact rz
 refine cp ?_
 exact rz
 intro h;refine bind_some2 h ?_;clear h;intro o34 ho34 h
 refine lq (σ:=(Int×Int)) (τ:=(Int×Int)) (ν:=(S_api_Token×Int)) 2 (fun (s25,s26) a28=>stOf 119 [(0,sA v0_s),(1,iA v1_at),(4,AV.ptr 0 0),(6,iA s25),(7,iA s26)]) (fun (s25,s26) a28=>[Ob.var 61 [iA (0),sA (([]:List UInt8)),iA (0),iA (0)]]) (fun (x42,x43) a41=>stOf 119 [(0,sA v0_s),(1,iA v1_at),(4,AV.ptr 0 0),(6,iA x42),(7,iA x43)]) (fun (x42,x43) a41=>[Ob.var 61 [iA (0),sA (([]:List UInt8)),iA (0),iA (0)]]) (fun v=>(AV.tup [AV.agg [iA v.1.f_Kind,sA v.1.f_Text,iA v.1.f_N,iA v.1.f_At],iA v.2],[])) (fun k s=>ref01_one_L1 n v0_s k s.1 s.2) (fun s=>rfl) o34 n (x21,0) (fun _=>0) ho34 ?_ ?_
 intro k27 ss a28 K29 cont30 hK31 hcont32 h hr33
 obtain ⟨s25,s26⟩:=ss
 replace h:ref01_one_L1 n v0_s (k27+1) s25 s26=some o34:=h
 rw [ref01_one_L1] at h
 conv=>lhs;whnf
 revert h
 refine br ?_ ?_
 refine ixs ?_;intro x36
 refine ca hc (fun _ h=>ok_ref01_digit h) ?_;intro y37
 refine br ?_ ?_
 refine ixs ?_;intro x40
 exact fun h=>cq (hcont32 (IntKind.i64.wrap (s25+1),(if 10000<(IntKind.i64.wrap ((IntKind.i64.wrap (10 * s26))+(IntKind.i64.wrap (IntKind.u8.wrap ((x40.toNat:Int) - 48))))) then 10000 else (IntKind.i64.wrap ((IntKind.i64.wrap (10 * s26))+(IntKind.i64.wrap (IntKind.u8.wrap ((x40.toNat:Int) - 48))))))) (fun _=>0) h)
 intro h;cases sj h
 exact kq (hr33 (fun _=>0))
 intro h;cases sj h
 exact kq (hr33 (fun _=>0))
 refine lrc ?_ ?_
 intro v e;subst e;cases sj h;rfl
 intro t a41 e;subst e
 obtain ⟨x42,x43⟩:=t
 dsimp only at h
 conv=>lhs;whnf
 revert h
 refine br ?_ ?_
 refine br ?_ ?_
 exact rz
 refine cp ?_
 exact rz
 refine ca hc (fun _ h=>ok_ref01_signs h) ?_;intro y47
 intro h;refine bind_some2 h ?_;clear h;intro o57 ho57 h
 refine lq (σ:=Int) (τ:=Unit) (ν:=(S_api_Token×Int)) 4 (fun s49 a51=>stOf 119 [(0,sA v0_s),(1,iA v1_at),(4,AV.ptr 0 0),(8,AV.sl 1 (List.map encS y47)),(9,iA s49)]) (fun s49 a51=>[Ob.var 61 [iA (0),sA (([]:List UInt8)),iA (0),iA (0)]]) (fun _ a65=>stOf 119 [(4,AV.ptr 0 0)]) (fun _ a65=>[Ob.var 61 [iA (0),sA (([]:List UInt8)),iA (0),iA (0)]]) (fun v=>(AV.tup [AV.agg [iA v.1.f_Kind,sA v.1.f_Text,iA v.1.f_N,iA v.1.f_At],iA v.2],[])) (fun k s=>ref01_one_L2 n v0_s v1_at y47 k s) (fun s=>rfl) o57 n 0 (fun _=>0) ho57 ?_ ?_
 intro k50 s49 a51 K52 cont53 hK54 hcont55 h hr56
 replace h:ref01_one_L2 n v0_s v1_at y47 (k50+1) s49=some o57:=h
 rw [ref01_one_L2] at h
 conv=>lhs;whnf
 revert h
 refine br ?_ ?_
 refine ix ?_;intro x59
 refine br ?_ ?_
 refine cp ?_
 refine ix ?_;intro x62
 refine br ?_ ?_
 refine ix ?_;intro x64
 intro h;cases sj h
 refine (hK54 _ _).trans ?_
 refine Eq.trans ?_ (Eq.symm (show _=some _ from hr56))
 conv=>lhs;whnf
 exact rq
 exact fun h=>cq (hcont55 (IntKind.i64.wrap (s49+1)) (fun _=>0) h)
 exact fun h=>cq (hcont55 (IntKind.i64.wrap (s49+1)) (fun _=>0) h)
 intro h;cases sj h
 exact kq (hr56 (fun _=>0))
 refine lrc ?_ ?_
 intro v e;subst e;cases sj h;rfl
 intro t a65 e;subst e
 dsimp only at h
 conv=>lhs;whnf
 revert h
 exact rz
theorem ok_ref01_Scan {n:Nat} ⦃v0_s:(List UInt8)⦄ ⦃r:((List S_api_Token)×Int×Int)⦄:m_ref01_Scan n v0_s=some r→CN n 13 [sA v0_s] []=some (AV.tup [AV.sl 4 (List.map c_api_Token r.1),iA r.2.1,iA r.2.2],[]):=by
 intro h;rcases n with _|n;cases h
 rw [m_ref01_Scan] at h
 refine callN_eq' Tryz.func13 (by rfl) rfl rfl (Nat.le_of_ble_eq_true rfl) ?_
 intro call hc;conv=>lhs;whnf
 revert h
 refine br ?_ ?_
 exact rz
 refine ca hc (fun _ h=>ok_ref01_gap h) ?_;intro y2
 intro h;refine bind_some2 h ?_;clear h;intro o13 ho13 h
 refine lq (σ:=(Int×(List S_api_Token))) (τ:=(List S_api_Token)) (ν:=((List S_api_Token)×Int×Int)) 0 (fun (s4,s5) a7=>stOf 40 [(0,sA v0_s),(5,AV.row 0 (List.length s5)),(6,iA s4)]) (fun (s4,s5) a7=>[Ob.row 61 4 (List.map c_api_Token s5)]) (fun x23 a22=>stOf 40 [(5,AV.row 0 (List.length x23))]) (fun x23 a22=>[Ob.row 61 4 (List.map c_api_Token x23)]) (fun v=>(AV.tup [AV.sl 4 (List.map c_api_Token v.1),iA v.2.1,iA v.2.2],[])) (fun k s=>ref01_Scan_L0 n v0_s k s.1 s.2) (fun s=>rfl) o13 n (y2,([]:List S_api_Token)) (fun _=>0) ho13 ?_ ?_
 intro k6 ss a7 K8 cont9 hK10 hcont11 h hr12
 obtain ⟨s4,s5⟩:=ss
 replace h:ref01_Scan_L0 n v0_s (k6+1) s4 s5=some o13:=h
 rw [ref01_Scan_L0] at h
 conv=>lhs;whnf
 revert h
 refine br ?_ ?_
 refine ca hc (fun _ h=>ok_ref01_one h) ?_;intro y15
 refine br ?_ ?_
 intro h;cases sj h
 refine (hK10 _ _).trans ?_
 refine Eq.trans ?_ (Eq.symm (show _=some _ from hr12))
 conv=>lhs;whnf
 exact rq
 refine ar (ap c_api_Token (List.map c_api_Token s5) s5 ([[iA y15.1.f_Kind,sA y15.1.f_Text,iA y15.1.f_N,iA y15.1.f_At]]) ([y15.1]:List S_api_Token)) ?_
 refine cr hc (fun _ h=>ok_ref01_gap h) ?_;intro y20
 exact fun h=>cq (hcont11 (y20,(s5++([y15.1]:List S_api_Token))) (fun _=>0) h)
 intro h;cases sj h
 exact kq (hr12 (fun _=>0))
 refine lrc ?_ ?_
 intro v e;subst e;cases sj h;rfl
 intro x23 a22 e;subst e
 dsimp only at h
 conv=>lhs;whnf
 revert h
 intro h;cases sj h
 try simp only [ls]
 exact fq (y:=some (AV.tup [AV.sl 4 (List.take (List.length x23) (List.map c_api_Token x23)),iA (0),iA (0)],[]))
theorem ok_ref01_words {n:Nat} ⦃r:(List (List UInt8))⦄:m_ref01_words n=some r→CN n 87 [] []=some (AV.sl 1 (List.map encS r),[]):=by
 intro h;rcases n with _|n;cases h
 rw [m_ref01_words] at h
 refine callN_eq' Tryz.func87 (by rfl) rfl rfl (Nat.le_of_ble_eq_true rfl) ?_
 intro call hc;conv=>lhs;whnf
 revert h
 exact rz
theorem ok_ref01_Keyword {n:Nat} ⦃v0_s:(List UInt8)⦄ ⦃r:Bool⦄:m_ref01_Keyword n v0_s=some r→CN n 78 [sA v0_s] []=some (bA r,[]):=by
 intro h;rcases n with _|n;cases h
 rw [m_ref01_Keyword] at h
 refine callN_eq' Tryz.func78 (by rfl) rfl rfl (Nat.le_of_ble_eq_true rfl) ?_
 intro call hc;conv=>lhs;whnf
 revert h
 refine ca hc (fun _ h=>ok_ref01_words h) ?_;intro y1
 intro h;refine bind_some2 h ?_;clear h;intro o11 ho11 h
 refine lq (σ:=Int) (τ:=Unit) (ν:=Bool) 0 (fun s3 a5=>stOf 18 [(0,sA v0_s),(3,AV.sl 1 (List.map encS y1)),(4,iA s3)]) (fun s3 a5=>[]) (fun _ a15=>stOf 18 []) (fun _ a15=>[]) (fun v=>(bA v,[])) (fun k s=>ref01_Keyword_L0 n v0_s y1 k s) (fun s=>rfl) o11 n 0 (fun _=>0) ho11 ?_ ?_
 intro k4 s3 a5 K6 cont7 hK8 hcont9 h hr10
 replace h:ref01_Keyword_L0 n v0_s y1 (k4+1) s3=some o11:=h
 rw [ref01_Keyword_L0] at h
 conv=>lhs;whnf
 revert h
 refine br ?_ ?_
 refine ix ?_;intro x13
 refine br ?_ ?_
 intro h;cases sj h
 refine (hK8 _ _).trans ?_
 refine Eq.trans ?_ (Eq.symm (show _=some _ from hr10))
 conv=>lhs;whnf
 exact rq
 exact fun h=>cq (hcont9 (IntKind.i64.wrap (s3+1)) (fun _=>0) h)
 intro h;cases sj h
 exact kq (hr10 (fun _=>0))
 refine lrc ?_ ?_
 intro v e;subst e;cases sj h;rfl
 intro t a15 e;subst e
 dsimp only at h
 conv=>lhs;whnf
 revert h
 exact rz
theorem ok_ref01_Name {n:Nat} ⦃v0_s:(List UInt8)⦄ ⦃r:Bool⦄:m_ref01_Name n v0_s=some r→CN n 70 [sA v0_s] []=some (bA r,[]):=by
 intro h;rcases n with _|n;cases h
 rw [m_ref01_Name] at h
 refine callN_eq' Tryz.func70 (by rfl) rfl rfl (Nat.le_of_ble_eq_true rfl) ?_
 intro call hc;conv=>lhs;whnf
 revert h
 refine br ?_ ?_
 exact rz
 refine br ?_ ?_
 exact rz
 refine ixs ?_;intro x3
 refine ca hc (fun _ h=>ok_ref01_letter h) ?_;intro y4
 refine br ?_ ?_
 refine ca hc (fun _ h=>ok_ref01_Keyword h) ?_;intro y7
 refine br ?_ ?_
 exact rz
 intro h;refine bind_some2 h ?_;clear h;intro o18 ho18 h
 refine lq (σ:=Int) (τ:=Unit) (ν:=Bool) 0 (fun s10 a12=>stOf 40 [(0,sA v0_s),(3,iA s10)]) (fun s10 a12=>[]) (fun _ a28=>stOf 40 []) (fun _ a28=>[]) (fun v=>(bA v,[])) (fun k s=>ref01_Name_L0 n v0_s k s) (fun s=>rfl) o18 n 0 (fun _=>0) ho18 ?_ ?_
 intro k11 s10 a12 K13 cont14 hK15 hcont16 h hr17
 replace h:ref01_Name_L0 n v0_s (k11+1) s10=some o18:=h
 rw [ref01_Name_L0] at h
 conv=>lhs;whnf
 revert h
 refine br ?_ ?_
 refine ixs ?_;intro x20
 refine ca hc (fun _ h=>ok_ref01_letter h) ?_;intro y21
 refine br ?_ ?_
 exact fun h=>cq (hcont16 (IntKind.i64.wrap (s10+1)) (fun _=>0) h)
 refine ixs ?_;intro x24
 refine ca hc (fun _ h=>ok_ref01_digit h) ?_;intro y25
 refine br ?_ ?_
 exact fun h=>cq (hcont16 (IntKind.i64.wrap (s10+1)) (fun _=>0) h)
 intro h;cases sj h
 refine (hK15 _ _).trans ?_
 refine Eq.trans ?_ (Eq.symm (show _=some _ from hr17))
 conv=>lhs;whnf
 exact rq
 intro h;cases sj h
 exact kq (hr17 (fun _=>0))
 refine lrc ?_ ?_
 intro v e;subst e;cases sj h;rfl
 intro t a28 e;subst e
 dsimp only at h
 conv=>lhs;whnf
 revert h
 exact rz
 exact rz
end Go.Proofs.YtonhmholnneaaaaGreat
end
section
namespace Go.Proofs.YtonhmholnneaaaaGreat
set_option linter.unusedVariables false
set_option linter.unusedSimpArgs false
set_option maxRecDepth 100000
set_option maxHeartbeats 4000000
theorem ok_law03_tokens {n:Nat} ⦃v0_s:(List UInt8)⦄ ⦃r:(List S_api_Token)⦄:m_law03_tokens n v0_s=some r→CN n 5 [sA v0_s] []=some (AV.sl 4 (List.map c_api_Token r),[]):=by
 intro h;rcases n with _|n;cases h
 rw [m_law03_tokens] at h
 refine callN_eq' Tryz.func5 (by rfl) rfl rfl (Nat.le_of_ble_eq_true rfl) ?_
 intro call hc;conv=>lhs;whnf
 revert h
 refine ca hc (fun _ h=>ok_ref01_Scan h) ?_;intro y1
 exact rz
end Go.Proofs.YtonhmholnneaaaaGreat
end
section
namespace Go.Proofs.YtonhmholnneaaaaGreat
set_option linter.unusedVariables false
set_option linter.unusedSimpArgs false
set_option maxRecDepth 100000
set_option maxHeartbeats 4000000
theorem ok_expr_kids {n:Nat} ⦃v0_op:Int⦄ ⦃r:Int⦄:m_expr_kids n v0_op=some r→CN n 83 [iA v0_op] []=some (iA r,[]):=by
 intro h;rcases n with _|n;cases h
 rw [m_expr_kids] at h
 refine callN_eq' Tryz.func83 (by rfl) rfl rfl (Nat.le_of_ble_eq_true rfl) ?_
 intro call hc;conv=>lhs;whnf
 revert h
 refine br ?_ ?_
 refine br ?_ ?_
 exact rz
 refine br ?_ ?_
 exact rz
 refine br ?_ ?_
 refine br ?_ ?_
 exact rz
 exact rz
 exact rz
 refine br ?_ ?_
 exact rz
 refine br ?_ ?_
 refine br ?_ ?_
 exact rz
 exact rz
 exact rz
theorem ok_expr_End {n:Nat} ⦃v0_l:(List S_api_Node)⦄ ⦃v1_i:Int⦄ ⦃r:Int⦄:m_expr_End n v0_l v1_i=some r→CN n 73 [AV.sl 5 (List.map c_api_Node v0_l),iA v1_i] []=some (iA r,[]):=by
 intro h;rcases n with _|n;cases h
 rw [m_expr_End] at h
 refine callN_eq' Tryz.func73 (by rfl) rfl rfl (Nat.le_of_ble_eq_true rfl) ?_
 intro call hc;conv=>lhs;whnf
 revert h
 refine br ?_ ?_
 exact rz
 intro h;refine bind_some2 h ?_;clear h;intro o11 ho11 h
 refine lq (σ:=(Int×Int)) (τ:=Unit) (ν:=Int) 0 (fun (s2,s3) a5=>stOf 31 [(0,AV.sl 5 (List.map c_api_Node v0_l)),(1,iA s2),(5,iA s3)]) (fun (s2,s3) a5=>[]) (fun _ a18=>stOf 31 []) (fun _ a18=>[]) (fun v=>(iA v,[])) (fun k s=>expr_End_L0 n v0_l k s.1 s.2) (fun s=>rfl) o11 n (v1_i,1) (fun _=>0) ho11 ?_ ?_
 intro k4 ss a5 K6 cont7 hK8 hcont9 h hr10
 obtain ⟨s2,s3⟩:=ss
 replace h:expr_End_L0 n v0_l (k4+1) s2 s3=some o11:=h
 rw [expr_End_L0] at h
 conv=>lhs;whnf
 revert h
 refine br ?_ ?_
 refine ix ?_;intro x13
 refine ca hc (fun _ h=>ok_expr_kids h) ?_;intro y14
 refine br ?_ ?_
 intro h;cases sj h
 refine (hK8 _ _).trans ?_
 refine Eq.trans ?_ (Eq.symm (show _=some _ from hr10))
 conv=>lhs;whnf
 exact rq
 refine br ?_ ?_
 intro h;cases sj h
 refine (hK8 _ _).trans ?_
 refine Eq.trans ?_ (Eq.symm (show _=some _ from hr10))
 conv=>lhs;whnf
 exact rq
 exact fun h=>cq (hcont9 (IntKind.i64.wrap (s2+1),IntKind.i64.wrap (s3+(IntKind.i64.wrap (y14 - 1)))) (fun _=>0) h)
 intro h;cases sj h
 exact kq (hr10 (fun _=>0))
 refine lrc ?_ ?_
 intro v e;subst e;cases sj h;rfl
 intro t a18 e;subst e
 dsimp only at h
 conv=>lhs;whnf
 revert h
 exact rz
theorem ok_expr_Names {n:Nat} ⦃v0_l:(List S_api_Node)⦄ ⦃r:(List S_api_Node)⦄:m_expr_Names n v0_l=some r→CN n 60 [AV.sl 5 (List.map c_api_Node v0_l)] []=some (AV.sl 5 (List.map c_api_Node r),[]):=by
 intro h;rcases n with _|n;cases h
 rw [m_expr_Names] at h
 refine callN_eq' Tryz.func60 (by rfl) rfl rfl (Nat.le_of_ble_eq_true rfl) ?_
 intro call hc;conv=>lhs;whnf
 revert h
 intro h;refine bind_some2 h ?_;clear h;intro o10 ho10 h
 refine lq (σ:=(Int×(List S_api_Node))) (τ:=(List S_api_Node)) (ν:=(List S_api_Node)) 0 (fun (s1,s2) a4=>stOf 24 [(3,AV.row 0 (List.length s2)),(6,AV.sl 5 (List.map c_api_Node v0_l)),(7,iA (((v0_l.length:Nat):Int))),(8,iA s1)]) (fun (s1,s2) a4=>[Ob.row 70 5 (List.map c_api_Node s2)]) (fun x23 a22=>stOf 24 [(3,AV.row 0 (List.length x23))]) (fun x23 a22=>[Ob.row 70 5 (List.map c_api_Node x23)]) (fun v=>(AV.sl 5 (List.map c_api_Node v),[])) (fun k s=>expr_Names_L0 n v0_l k s.1 s.2) (fun s=>rfl) o10 n (0,([]:List S_api_Node)) (fun _=>0) ho10 ?_ ?_
 intro k3 ss a4 K5 cont6 hK7 hcont8 h hr9
 obtain ⟨s1,s2⟩:=ss
 replace h:expr_Names_L0 n v0_l (k3+1) s1 s2=some o10:=h
 rw [expr_Names_L0] at h
 conv=>lhs;whnf
 revert h
 refine br ?_ ?_
 refine ix ?_;intro x12
 refine br ?_ ?_
 refine ar (ap c_api_Node (List.map c_api_Node s2) s2 ([[iA x12.f_Op,iA x12.f_N,sA x12.f_Name,sA x12.f_In,iA x12.f_At]]) ([x12]:List S_api_Node)) ?_
 exact fun h=>cq (hcont8 (IntKind.i64.wrap (s1+1),(s2++([x12]:List S_api_Node))) (fun _=>0) h)
 refine br ?_ ?_
 refine ar (ap c_api_Node (List.map c_api_Node s2) s2 ([[iA x12.f_Op,iA x12.f_N,sA x12.f_Name,sA x12.f_In,iA x12.f_At]]) ([x12]:List S_api_Node)) ?_
 exact fun h=>cq (hcont8 (IntKind.i64.wrap (s1+1),(s2++([x12]:List S_api_Node))) (fun _=>0) h)
 refine br ?_ ?_
 refine ar (ap c_api_Node (List.map c_api_Node s2) s2 ([[iA x12.f_Op,iA x12.f_N,sA x12.f_Name,sA x12.f_In,iA x12.f_At]]) ([x12]:List S_api_Node)) ?_
 exact fun h=>cq (hcont8 (IntKind.i64.wrap (s1+1),(s2++([x12]:List S_api_Node))) (fun _=>0) h)
 exact fun h=>cq (hcont8 (IntKind.i64.wrap (s1+1),s2) (fun _=>0) h)
 intro h;cases sj h
 exact kq (hr9 (fun _=>0))
 refine lrc ?_ ?_
 intro v e;subst e;cases sj h;rfl
 intro x23 a22 e;subst e
 dsimp only at h
 conv=>lhs;whnf
 revert h
 intro h;obtain rfl:=sj h
 try simp only [ls]
 exact fq (y:=some (AV.sl 5 (List.take (List.length x23) (List.map c_api_Node x23)),[]))
theorem ok_expr_depth {n:Nat} ⦃v0_l:(List S_api_Node)⦄ ⦃r:Int⦄:m_expr_depth n v0_l=some r→CN n 75 [AV.sl 5 (List.map c_api_Node v0_l)] []=some (iA r,[]):=by
 intro h;rcases n with _|n;cases h
 rw [m_expr_depth] at h
 refine callN_eq' Tryz.func75 (by rfl) rfl rfl (Nat.le_of_ble_eq_true rfl) ?_
 intro call hc;conv=>lhs;whnf
 revert h
 intro h;refine bind_some2 h ?_;clear h;intro o11 ho11 h
 refine lq (σ:=(Int×Int×(List Int))) (τ:=(Int×(List Int))) (ν:=Int) 0 (fun (s1,s2,s3) a5=>stOf 50 [(3,AV.stk 0 (a5 0) (List.length s3)),(4,iA s1),(9,AV.sl 5 (List.map c_api_Node v0_l)),(10,iA (((v0_l.length:Nat):Int))),(11,iA s2)]) (fun (s1,s2,s3) a5=>[Ob.stk (a5 0) 3 1 (List.map encI s3)]) (fun (x41,x42) a40=>stOf 50 [(4,iA x41)]) (fun (x41,x42) a40=>[Ob.stk (a40 0) 3 1 (List.map encI x42)]) (fun v=>(iA v,[])) (fun k s=>expr_depth_L0 n v0_l k s.1 s.2.1 s.2.2) (fun s=>rfl) o11 n (0,0,([]:List Int)) (fun j=>(bif Nat.beq j 0 then 0 else 0)) ho11 ?_ ?_
 intro k4 ss a5 K6 cont7 hK8 hcont9 h hr10
 obtain ⟨s1,s2,s3⟩:=ss
 replace h:expr_depth_L0 n v0_l (k4+1) s1 s2 s3=some o11:=h
 rw [expr_depth_L0] at h
 conv=>lhs;whnf
 revert h
 refine br ?_ ?_
 refine ix ?_;intro x13
 refine ca hc (fun _ h=>ok_expr_kids h) ?_;intro y14
 refine br ?_ ?_
 intro h
 refine chk_some2 h ?_;clear h;intro hc19 h
 try simp only [dec_self]
 conv=>lhs;whnf
 first|refine bif_pos (app_row hc19 (by first|rfl|simp only [List.length_map]) (by first|rfl|simp only [List.length_map]) (by first|rfl|simp only [List.length_map,take_map_len]) (by kernel_rfl)) ?_|refine bif_pos (app_row2 hc19 (by first|rfl|simp only [List.length_map]) (by first|rfl|simp only [List.length_map,take_map_len]) (by kernel_rfl)) ?_
 try simp only [lt]
 have hp17:(List.map encI s3:List (List AV))++[[iA y14]]=List.map encI (s3++([y14]:List Int)):=by first|rfl|(rw [List.map_append];rfl)|(rw [List.map_append];done)|(simp only [List.map_append,List.map_cons,List.map_nil,List.nil_append,encI]<;>rfl)
 have hl18:List.length (List.map encI s3:List (List AV))+List.length ([[iA y14]]:List (List AV))=List.length (s3++([y14]:List Int)):=by simp only [List.length_map,List.length_append]<;>rfl
 have hl18_b:List.length s3+List.length ([[iA y14]]:List (List AV))=List.length (s3++([y14]:List Int)):=by simp only [List.length_map,List.length_append]<;>rfl
 have hl18_c:List.length s3+List.length ([y14]:List Int)=List.length (s3++([y14]:List Int)):=by simp only [List.length_map,List.length_append]<;>rfl
 first|simp only [hp17,hl18]|(simp only [List.length_map,take_map_len];simp only [hp17,hl18_b,hl18_c])
 try simp only [ls]
 conv=>lhs;whnf
 revert h
 exact fun h=>cq (hcont9 ((if s1<((s3.length:Nat):Int) then ((s3.length:Nat):Int) else s1),IntKind.i64.wrap (s2+1),(s3++([y14]:List Int))) (fun j=>(bif Nat.beq j 0 then ((a5 0)+1) else 0)) h)
 intro h;refine bind_some2 h ?_;clear h;intro o28 ho28 h
 refine lq (σ:=(List Int)) (τ:=(List Int)) (ν:=Int) 2 (fun s20 a22=>stOf 50 [(3,AV.stk 0 (a22 0) (List.length s20)),(4,iA ((if s1<((s3.length:Nat):Int) then ((s3.length:Nat):Int) else s1))),(9,AV.sl 5 (List.map c_api_Node v0_l)),(10,iA (((v0_l.length:Nat):Int))),(11,iA s2)]) (fun s20 a22=>[Ob.stk (a22 0) 3 1 (List.map encI s20),Ob.var 70 [iA x13.f_Op,iA x13.f_N,sA x13.f_Name,sA x13.f_In,iA x13.f_At]]) (fun x38 a37=>stOf 50 [(3,AV.stk 0 (a37 0) (List.length x38)),(4,iA ((if s1<((s3.length:Nat):Int) then ((s3.length:Nat):Int) else s1))),(9,AV.sl 5 (List.map c_api_Node v0_l)),(10,iA (((v0_l.length:Nat):Int))),(11,iA s2)]) (fun x38 a37=>[Ob.stk (a37 0) 3 1 (List.map encI x38),Ob.var 70 [iA x13.f_Op,iA x13.f_N,sA x13.f_Name,sA x13.f_In,iA x13.f_At]]) (fun v=>(iA v,[])) (fun k s=>expr_depth_L1 n k s) (fun s=>rfl) o28 n s3 (fun j=>(bif Nat.beq j 0 then (a5 0) else 0)) ho28 ?_ ?_
 intro k21 s20 a22 K23 cont24 hK25 hcont26 h hr27
 replace h:expr_depth_L1 n (k21+1) s20=some o28:=h
 rw [expr_depth_L1] at h
 conv=>lhs;whnf
 revert h
 refine br ?_ ?_
 intro h
 refine bind_some2 h ?_;clear h;intro x30 hx30 h
 try simp only [dec_self]
 conv=>lhs;whnf
 try simp only [ls]
 refine bif_pos (by first|exact idx_in hx30|exact idx_in' hx30|exact own_in hx30|exact own_in' hx30|(have q:=idx_in hx30;simp only [List.length_set] at q;exact q)|(have q:=own_in' hx30;simp only [List.length_set,Nat.zero_add] at q ⊢;exact q)) ?_
 conv=>lhs;whnf
 try simp only [idx_nth (f:=encI) hx30,dec_self,ls]
 conv=>lhs;whnf
 revert h
 intro h
 refine bind_some2 h ?_;clear h;intro x31 hx31 h
 try simp only [dec_self]
 conv=>lhs;whnf
 try simp only [ls]
 refine bif_pos (by first|exact idx_in hx31|exact idx_in' hx31|exact own_in hx31|exact own_in' hx31|(have q:=idx_in hx31;simp only [List.length_set] at q;exact q)|(have q:=own_in' hx31;simp only [List.length_set,Nat.zero_add] at q ⊢;exact q)) ?_
 conv=>lhs;whnf
 try simp only [idx_nth (f:=encI) hx31,dec_self,ls]
 conv=>lhs;whnf
 revert h
 intro h
 have hs32:setNth (List.map encI s20) (IntKind.i64.wrap (((s20.length:Nat):Int) - 1)).toNat [iA (IntKind.i64.wrap (x30 - 1))]=List.map encI (List.set s20 (IntKind.i64.wrap (((s20.length:Nat):Int) - 1)).toNat (IntKind.i64.wrap (x30 - 1))):=by rw [setNth_eq,List.map_set];rfl
 have hs32_u:setNth (List.map encI s20) (IntKind.i64.wrap (((s20.length:Nat):Int) - 1)).toNat (updL (encI x31) 0 [iA (IntKind.i64.wrap (x30 - 1))])=List.map encI (List.set s20 (IntKind.i64.wrap (((s20.length:Nat):Int) - 1)).toNat (IntKind.i64.wrap (x30 - 1))):=by rw [setNth_eq,List.map_set];rfl
 try simp only [idx_nth (f:=encI) hx31,dec_self]
 conv=>lhs;whnf
 try simp only [hs32,hs32_u,dec_self]
 conv=>lhs;whnf
 revert h
 intro h
 refine bind_some2 h ?_;clear h;intro x33 hx33 h
 try simp only [dec_self]
 conv=>lhs;whnf
 try simp only [ls]
 refine bif_pos (by first|exact idx_in hx33|exact idx_in' hx33|exact own_in hx33|exact own_in' hx33|(have q:=idx_in hx33;simp only [List.length_set] at q;exact q)|(have q:=own_in' hx33;simp only [List.length_set,Nat.zero_add] at q ⊢;exact q)) ?_
 conv=>lhs;whnf
 try simp only [idx_nth (f:=encI) hx33,dec_self,ls]
 conv=>lhs;whnf
 revert h
 refine br ?_ ?_
 intro h;cases sj h
 exact kq (hr27 (fun j=>(bif Nat.beq j 0 then (a22 0) else 0)))
 intro h
 refine chk_some2 h ?_;clear h;intro hc36 h
 try simp only [dec_self]
 conv=>lhs;whnf
 try simp only [ls]
 first|refine bif_pos hc36 ?_|(refine bif_pos (by have q:=hc36;simp only [List.length_set] at q;exact q) ?_)
 have hs35:List.take ((IntKind.i64.wrap (((s20.length:Nat):Int) - 1)).toNat) (List.map encI (List.set s20 (IntKind.i64.wrap (((s20.length:Nat):Int) - 1)).toNat (IntKind.i64.wrap (x30 - 1))))=List.map encI (List.take ((IntKind.i64.wrap (((s20.length:Nat):Int) - 1)).toNat) (List.set s20 (IntKind.i64.wrap (((s20.length:Nat):Int) - 1)).toNat (IntKind.i64.wrap (x30 - 1)))):=by rw [List.map_take]
 have hs35_l:List.length (List.take ((IntKind.i64.wrap (((s20.length:Nat):Int) - 1)).toNat) (List.set s20 (IntKind.i64.wrap (((s20.length:Nat):Int) - 1)).toNat (IntKind.i64.wrap (x30 - 1))))=(IntKind.i64.wrap (((s20.length:Nat):Int) - 1)).toNat:=by simp only [List.length_take];exact Nat.min_eq_left (cut_le hc36)
 conv=>lhs;whnf
 try simp only [dec_self,hs35]
 conv=>lhs;whnf
 try simp only [hs35]
 have hs35_s:∀ q,AV.stk 0 q ((IntKind.i64.wrap (((s20.length:Nat):Int) - 1)).toNat)=AV.stk 0 q (List.length (List.take ((IntKind.i64.wrap (((s20.length:Nat):Int) - 1)).toNat) (List.set s20 (IntKind.i64.wrap (((s20.length:Nat):Int) - 1)).toNat (IntKind.i64.wrap (x30 - 1))))):=fun q=>by rw [hs35_l]
 try simp only [hs35_s]
 conv=>lhs;whnf
 revert h
 exact fun h=>cq (hcont26 (List.take ((IntKind.i64.wrap (((s20.length:Nat):Int) - 1)).toNat) (List.set s20 (IntKind.i64.wrap (((s20.length:Nat):Int) - 1)).toNat (IntKind.i64.wrap (x30 - 1)))) (fun j=>(bif Nat.beq j 0 then ((a22 0)+1) else 0)) h)
 intro h;cases sj h
 exact kq (hr27 (fun j=>(bif Nat.beq j 0 then (a22 0) else 0)))
 refine lrc ?_ ?_
 intro v e;subst e;cases sj h;exact hr10
 intro x38 a37 e;subst e
 dsimp only at h
 conv=>lhs;whnf
 revert h
 exact fun h=>cq (hcont9 ((if s1<((s3.length:Nat):Int) then ((s3.length:Nat):Int) else s1),IntKind.i64.wrap (s2+1),x38) (fun j=>(bif Nat.beq j 0 then (a37 0) else 0)) h)
 intro h;cases sj h
 exact kq (hr10 (fun j=>(bif Nat.beq j 0 then (a5 0) else 0)))
 refine lrc ?_ ?_
 intro v e;subst e;cases sj h;rfl
 intro t a40 e;subst e
 obtain ⟨x41,x42⟩:=t
 dsimp only at h
 conv=>lhs;whnf
 revert h
 exact rz
theorem ok_expr_node {n:Nat} ⦃v0_x:S_api_Node⦄ ⦃v1_rest:(List (List S_api_Node))⦄ ⦃r:(List S_api_Node)⦄:m_expr_node n v0_x v1_rest=some r→CN n 99 [AV.agg [iA v0_x.f_Op,iA v0_x.f_N,sA v0_x.f_Name,sA v0_x.f_In,iA v0_x.f_At],AV.sl 1 (List.map c_sl___api_Node v1_rest)] []=some (AV.sl 5 (List.map c_api_Node r),[]):=by
 intro h;rcases n with _|n;cases h
 rw [m_expr_node] at h
 refine callN_eq' Tryz.func99 (by rfl) rfl rfl (Nat.le_of_ble_eq_true rfl) ?_
 intro call hc;conv=>lhs;whnf
 revert h
 intro h;refine bind_some2 h ?_;clear h;intro o10 ho10 h
 refine lq (σ:=(Int×(List S_api_Node))) (τ:=(List S_api_Node)) (ν:=(List S_api_Node)) 0 (fun (s1,s2) a4=>stOf 21 [(5,AV.row 1 (List.length s2)),(10,AV.sl 1 (List.map c_sl___api_Node v1_rest)),(11,iA (((v1_rest.length:Nat):Int))),(12,iA s1)]) (fun (s1,s2) a4=>[Ob.var 70 [iA v0_x.f_Op,iA v0_x.f_N,sA v0_x.f_Name,sA v0_x.f_In,iA v0_x.f_At],Ob.row 70 5 (List.map c_api_Node s2)]) (fun x16 a15=>stOf 21 [(5,AV.row 1 (List.length x16))]) (fun x16 a15=>[Ob.var 70 [iA v0_x.f_Op,iA v0_x.f_N,sA v0_x.f_Name,sA v0_x.f_In,iA v0_x.f_At],Ob.row 70 5 (List.map c_api_Node x16)]) (fun v=>(AV.sl 5 (List.map c_api_Node v),[])) (fun k s=>expr_node_L0 n v1_rest k s.1 s.2) (fun s=>rfl) o10 n (0,([v0_x]:List S_api_Node)) (fun _=>0) ho10 ?_ ?_
 intro k3 ss a4 K5 cont6 hK7 hcont8 h hr9
 obtain ⟨s1,s2⟩:=ss
 replace h:expr_node_L0 n v1_rest (k3+1) s1 s2=some o10:=h
 rw [expr_node_L0] at h
 conv=>lhs;whnf
 revert h
 refine br ?_ ?_
 refine ix ?_;intro x12
 refine ar (ap c_api_Node (List.map c_api_Node s2) s2 (List.map c_api_Node x12) x12) ?_
 exact fun h=>cq (hcont8 (IntKind.i64.wrap (s1+1),(s2++x12)) (fun _=>0) h)
 intro h;cases sj h
 exact kq (hr9 (fun _=>0))
 refine lrc ?_ ?_
 intro v e;subst e;cases sj h;rfl
 intro x16 a15 e;subst e
 dsimp only at h
 conv=>lhs;whnf
 revert h
 intro h;obtain rfl:=sj h
 try simp only [ls]
 exact fq (y:=some (AV.sl 5 (List.take (List.length x16) (List.map c_api_Node x16)),[]))
theorem ok_expr_parser_is {n:Nat} ⦃v1_s:(List UInt8)⦄ ⦃p_l:(List S_api_Token)⦄ ⦃p_i:Int⦄ ⦃p_in:Int⦄ ⦃p_e:Int⦄ ⦃p_at:Int⦄ ⦃r:Bool⦄:m_expr_parser_is n v1_s p_l p_i p_in p_e p_at=some r→CN n 98 [AV.ptr 0 0,sA v1_s] [Ob.var 107 [AV.sl 4 (List.map c_api_Token p_l),iA p_i,iA p_in,iA p_e,iA p_at]]=some (bA r,[Ob.var 107 [AV.sl 4 (List.map c_api_Token p_l),iA p_i,iA p_in,iA p_e,iA p_at]]):=by
 intro h;rcases n with _|n;cases h
 rw [m_expr_parser_is] at h
 refine callN_eq' Tryz.func98 (by rfl) rfl rfl (Nat.le_of_ble_eq_true rfl) ?_
 intro call hc;conv=>lhs;whnf
 revert h
 refine br ?_ ?_
 refine ix ?_;intro x2
 refine br ?_ ?_
 refine ix ?_;intro x4
 exact rz
 exact rz
 exact rz
theorem ok_expr_parser_fail {n:Nat} ⦃v1_e:Int⦄ ⦃p_l:(List S_api_Token)⦄ ⦃p_i:Int⦄ ⦃p_in:Int⦄ ⦃p_e:Int⦄ ⦃p_at:Int⦄ ⦃r:((List S_api_Node)×Int×Int)⦄:m_expr_parser_fail n v1_e p_l p_i p_in p_e p_at=some r→CN n 105 [AV.ptr 0 0,iA v1_e] [Ob.var 107 [AV.sl 4 (List.map c_api_Token p_l),iA p_i,iA p_in,iA p_e,iA p_at]]=some (AV.sl 5 (List.map c_api_Node r.1),[Ob.var 107 [AV.sl 4 (List.map c_api_Token p_l),iA p_i,iA p_in,iA r.2.1,iA r.2.2]]):=by
 intro h;rcases n with _|n;cases h
 rw [m_expr_parser_fail] at h
 refine callN_eq' Tryz.func105 (by rfl) rfl rfl (Nat.le_of_ble_eq_true rfl) ?_
 intro call hc;conv=>lhs;whnf
 revert h
 refine br ?_ ?_
 exact rz
 refine br ?_ ?_
 refine ix ?_;intro x3
 exact rz
 refine br ?_ ?_
 refine br ?_ ?_
 refine ix ?_;intro x6
 refine ix ?_;intro x7
 exact rz
 exact rz
 refine br ?_ ?_
 refine ix ?_;intro x9
 refine ix ?_;intro x10
 exact rz
 exact rz
theorem ok_expr_parser_name {n:Nat} ⦃p_l:(List S_api_Token)⦄ ⦃p_i:Int⦄ ⦃p_in:Int⦄ ⦃p_e:Int⦄ ⦃p_at:Int⦄ ⦃r:((List UInt8)×Int×Bool×Int)⦄:m_expr_parser_name n p_l p_i p_in p_e p_at=some r→CN n 106 [AV.ptr 0 0] [Ob.var 107 [AV.sl 4 (List.map c_api_Token p_l),iA p_i,iA p_in,iA p_e,iA p_at]]=some (AV.tup [sA r.1,iA r.2.1,bA r.2.2.1],[Ob.var 107 [AV.sl 4 (List.map c_api_Token p_l),iA r.2.2.2,iA p_in,iA p_e,iA p_at]]):=by
 intro h;rcases n with _|n;cases h
 rw [m_expr_parser_name] at h
 refine callN_eq' Tryz.func106 (by rfl) rfl rfl (Nat.le_of_ble_eq_true rfl) ?_
 intro call hc;conv=>lhs;whnf
 revert h
 refine br ?_ ?_
 exact rz
 refine ix ?_;intro x2
 refine br ?_ ?_
 exact rz
 refine ix ?_;intro x4
 refine ca hc (fun _ h=>ok_scan_Name h) ?_;intro y5
 refine br ?_ ?_
 refine ix ?_;intro x8
 exact rz
 exact rz
theorem ok_expr_sign {n:Nat} ⦃v0_op:Int⦄ ⦃r:(List UInt8)⦄:m_expr_sign n v0_op=some r→CN n 85 [iA v0_op] []=some (sA r,[]):=by
 intro h;rcases n with _|n;cases h
 rw [m_expr_sign] at h
 refine callN_eq' Tryz.func85 (by rfl) rfl rfl (Nat.le_of_ble_eq_true rfl) ?_
 intro call hc;conv=>lhs;whnf
 revert h
 refine br ?_ ?_
 exact rz
 refine br ?_ ?_
 exact rz
 refine br ?_ ?_
 exact rz
 refine br ?_ ?_
 exact rz
 refine br ?_ ?_
 exact rz
 refine br ?_ ?_
 exact rz
 refine br ?_ ?_
 exact rz
 refine br ?_ ?_
 exact rz
 refine br ?_ ?_
 exact rz
 refine br ?_ ?_
 exact rz
 refine br ?_ ?_
 exact rz
 refine br ?_ ?_
 exact rz
 refine br ?_ ?_
 exact rz
 refine br ?_ ?_
 exact rz
 refine bt ?_
 exact rz
def OK_expr_parser_any (n:Nat):Prop:=∀ ⦃p_l:(List S_api_Token)⦄ ⦃p_i:Int⦄ ⦃p_in:Int⦄ ⦃p_e:Int⦄ ⦃p_at:Int⦄ ⦃r:((List S_api_Node)×Int×Int×Int×Int)⦄,m_expr_parser_any n p_l p_i p_in p_e p_at=some r→CN n 86 [AV.ptr 0 0] [Ob.var 107 [AV.sl 4 (List.map c_api_Token p_l),iA p_i,iA p_in,iA p_e,iA p_at]]=some (AV.sl 5 (List.map c_api_Node r.1),[Ob.var 107 [AV.sl 4 (List.map c_api_Token p_l),iA r.2.1,iA r.2.2.1,iA r.2.2.2.1,iA r.2.2.2.2]])
def OK_expr_parser_both (n:Nat):Prop:=∀ ⦃p_l:(List S_api_Token)⦄ ⦃p_i:Int⦄ ⦃p_in:Int⦄ ⦃p_e:Int⦄ ⦃p_at:Int⦄ ⦃r:((List S_api_Node)×Int×Int×Int×Int)⦄,m_expr_parser_both n p_l p_i p_in p_e p_at=some r→CN n 95 [AV.ptr 0 0] [Ob.var 107 [AV.sl 4 (List.map c_api_Token p_l),iA p_i,iA p_in,iA p_e,iA p_at]]=some (AV.sl 5 (List.map c_api_Node r.1),[Ob.var 107 [AV.sl 4 (List.map c_api_Token p_l),iA r.2.1,iA r.2.2.1,iA r.2.2.2.1,iA r.2.2.2.2]])
def OK_expr_parser_compared (n:Nat):Prop:=∀ ⦃p_l:(List S_api_Token)⦄ ⦃p_i:Int⦄ ⦃p_in:Int⦄ ⦃p_e:Int⦄ ⦃p_at:Int⦄ ⦃r:((List S_api_Node)×Int×Int×Int×Int)⦄,m_expr_parser_compared n p_l p_i p_in p_e p_at=some r→CN n 100 [AV.ptr 0 0] [Ob.var 107 [AV.sl 4 (List.map c_api_Token p_l),iA p_i,iA p_in,iA p_e,iA p_at]]=some (AV.sl 5 (List.map c_api_Node r.1),[Ob.var 107 [AV.sl 4 (List.map c_api_Token p_l),iA r.2.1,iA r.2.2.1,iA r.2.2.2.1,iA r.2.2.2.2]])
def OK_expr_parser_inner (n:Nat):Prop:=∀ ⦃p_l:(List S_api_Token)⦄ ⦃p_i:Int⦄ ⦃p_in:Int⦄ ⦃p_e:Int⦄ ⦃p_at:Int⦄ ⦃r:((List S_api_Node)×Int×Int×Int×Int)⦄,m_expr_parser_inner n p_l p_i p_in p_e p_at=some r→CN n 104 [AV.ptr 0 0,AV.func 103 [] []] [Ob.var 107 [AV.sl 4 (List.map c_api_Token p_l),iA p_i,iA p_in,iA p_e,iA p_at]]=some (AV.sl 5 (List.map c_api_Node r.1),[Ob.var 107 [AV.sl 4 (List.map c_api_Token p_l),iA r.2.1,iA r.2.2.1,iA r.2.2.2.1,iA r.2.2.2.2]])
def OK_expr_parser_inner_1 (n:Nat):Prop:=∀ ⦃p_l:(List S_api_Token)⦄ ⦃p_i:Int⦄ ⦃p_in:Int⦄ ⦃p_e:Int⦄ ⦃p_at:Int⦄ ⦃r:((List S_api_Node)×Int×Int×Int×Int)⦄,m_expr_parser_inner_1 n p_l p_i p_in p_e p_at=some r→CN n 104 [AV.ptr 0 0,AV.func 86 [] []] [Ob.var 107 [AV.sl 4 (List.map c_api_Token p_l),iA p_i,iA p_in,iA p_e,iA p_at]]=some (AV.sl 5 (List.map c_api_Node r.1),[Ob.var 107 [AV.sl 4 (List.map c_api_Token p_l),iA r.2.1,iA r.2.2.1,iA r.2.2.2.1,iA r.2.2.2.2]])
def OK_expr_parser_product (n:Nat):Prop:=∀ ⦃p_l:(List S_api_Token)⦄ ⦃p_i:Int⦄ ⦃p_in:Int⦄ ⦃p_e:Int⦄ ⦃p_at:Int⦄ ⦃r:((List S_api_Node)×Int×Int×Int×Int)⦄,m_expr_parser_product n p_l p_i p_in p_e p_at=some r→CN n 102 [AV.ptr 0 0] [Ob.var 107 [AV.sl 4 (List.map c_api_Token p_l),iA p_i,iA p_in,iA p_e,iA p_at]]=some (AV.sl 5 (List.map c_api_Node r.1),[Ob.var 107 [AV.sl 4 (List.map c_api_Token p_l),iA r.2.1,iA r.2.2.1,iA r.2.2.2.1,iA r.2.2.2.2]])
def OK_expr_parser_row (n:Nat):Prop:=∀ ⦃v2_once:Bool⦄ ⦃v3_ops:(List Int)⦄ ⦃p_l:(List S_api_Token)⦄ ⦃p_i:Int⦄ ⦃p_in:Int⦄ ⦃p_e:Int⦄ ⦃p_at:Int⦄ ⦃r:((List S_api_Node)×Int×Int×Int×Int)⦄,m_expr_parser_row n v2_once v3_ops p_l p_i p_in p_e p_at=some r→CN n 94 [AV.ptr 0 0,AV.func 95 [] [],bA v2_once,AV.sl 1 (List.map encI v3_ops)] [Ob.var 107 [AV.sl 4 (List.map c_api_Token p_l),iA p_i,iA p_in,iA p_e,iA p_at]]=some (AV.sl 5 (List.map c_api_Node r.1),[Ob.var 107 [AV.sl 4 (List.map c_api_Token p_l),iA r.2.1,iA r.2.2.1,iA r.2.2.2.1,iA r.2.2.2.2]])
def OK_expr_parser_row_1 (n:Nat):Prop:=∀ ⦃v2_once:Bool⦄ ⦃v3_ops:(List Int)⦄ ⦃p_l:(List S_api_Token)⦄ ⦃p_i:Int⦄ ⦃p_in:Int⦄ ⦃p_e:Int⦄ ⦃p_at:Int⦄ ⦃r:((List S_api_Node)×Int×Int×Int×Int)⦄,m_expr_parser_row_1 n v2_once v3_ops p_l p_i p_in p_e p_at=some r→CN n 94 [AV.ptr 0 0,AV.func 100 [] [],bA v2_once,AV.sl 1 (List.map encI v3_ops)] [Ob.var 107 [AV.sl 4 (List.map c_api_Token p_l),iA p_i,iA p_in,iA p_e,iA p_at]]=some (AV.sl 5 (List.map c_api_Node r.1),[Ob.var 107 [AV.sl 4 (List.map c_api_Token p_l),iA r.2.1,iA r.2.2.1,iA r.2.2.2.1,iA r.2.2.2.2]])
def OK_expr_parser_row_2 (n:Nat):Prop:=∀ ⦃v2_once:Bool⦄ ⦃v3_ops:(List Int)⦄ ⦃p_l:(List S_api_Token)⦄ ⦃p_i:Int⦄ ⦃p_in:Int⦄ ⦃p_e:Int⦄ ⦃p_at:Int⦄ ⦃r:((List S_api_Node)×Int×Int×Int×Int)⦄,m_expr_parser_row_2 n v2_once v3_ops p_l p_i p_in p_e p_at=some r→CN n 94 [AV.ptr 0 0,AV.func 101 [] [],bA v2_once,AV.sl 1 (List.map encI v3_ops)] [Ob.var 107 [AV.sl 4 (List.map c_api_Token p_l),iA p_i,iA p_in,iA p_e,iA p_at]]=some (AV.sl 5 (List.map c_api_Node r.1),[Ob.var 107 [AV.sl 4 (List.map c_api_Token p_l),iA r.2.1,iA r.2.2.1,iA r.2.2.2.1,iA r.2.2.2.2]])
def OK_expr_parser_row_3 (n:Nat):Prop:=∀ ⦃v2_once:Bool⦄ ⦃v3_ops:(List Int)⦄ ⦃p_l:(List S_api_Token)⦄ ⦃p_i:Int⦄ ⦃p_in:Int⦄ ⦃p_e:Int⦄ ⦃p_at:Int⦄ ⦃r:((List S_api_Node)×Int×Int×Int×Int)⦄,m_expr_parser_row_3 n v2_once v3_ops p_l p_i p_in p_e p_at=some r→CN n 94 [AV.ptr 0 0,AV.func 102 [] [],bA v2_once,AV.sl 1 (List.map encI v3_ops)] [Ob.var 107 [AV.sl 4 (List.map c_api_Token p_l),iA p_i,iA p_in,iA p_e,iA p_at]]=some (AV.sl 5 (List.map c_api_Node r.1),[Ob.var 107 [AV.sl 4 (List.map c_api_Token p_l),iA r.2.1,iA r.2.2.1,iA r.2.2.2.1,iA r.2.2.2.2]])
def OK_expr_parser_row_4 (n:Nat):Prop:=∀ ⦃v2_once:Bool⦄ ⦃v3_ops:(List Int)⦄ ⦃p_l:(List S_api_Token)⦄ ⦃p_i:Int⦄ ⦃p_in:Int⦄ ⦃p_e:Int⦄ ⦃p_at:Int⦄ ⦃r:((List S_api_Node)×Int×Int×Int×Int)⦄,m_expr_parser_row_4 n v2_once v3_ops p_l p_i p_in p_e p_at=some r→CN n 94 [AV.ptr 0 0,AV.func 103 [] [],bA v2_once,AV.sl 1 (List.map encI v3_ops)] [Ob.var 107 [AV.sl 4 (List.map c_api_Token p_l),iA p_i,iA p_in,iA p_e,iA p_at]]=some (AV.sl 5 (List.map c_api_Node r.1),[Ob.var 107 [AV.sl 4 (List.map c_api_Token p_l),iA r.2.1,iA r.2.2.1,iA r.2.2.2.1,iA r.2.2.2.2]])
def OK_expr_parser_single (n:Nat):Prop:=∀ ⦃p_l:(List S_api_Token)⦄ ⦃p_i:Int⦄ ⦃p_in:Int⦄ ⦃p_e:Int⦄ ⦃p_at:Int⦄ ⦃r:((List S_api_Node)×Int×Int×Int×Int)⦄,m_expr_parser_single n p_l p_i p_in p_e p_at=some r→CN n 103 [AV.ptr 0 0] [Ob.var 107 [AV.sl 4 (List.map c_api_Token p_l),iA p_i,iA p_in,iA p_e,iA p_at]]=some (AV.sl 5 (List.map c_api_Node r.1),[Ob.var 107 [AV.sl 4 (List.map c_api_Token p_l),iA r.2.1,iA r.2.2.1,iA r.2.2.2.1,iA r.2.2.2.2]])
def OK_expr_parser_sum (n:Nat):Prop:=∀ ⦃p_l:(List S_api_Token)⦄ ⦃p_i:Int⦄ ⦃p_in:Int⦄ ⦃p_e:Int⦄ ⦃p_at:Int⦄ ⦃r:((List S_api_Node)×Int×Int×Int×Int)⦄,m_expr_parser_sum n p_l p_i p_in p_e p_at=some r→CN n 101 [AV.ptr 0 0] [Ob.var 107 [AV.sl 4 (List.map c_api_Token p_l),iA p_i,iA p_in,iA p_e,iA p_at]]=some (AV.sl 5 (List.map c_api_Node r.1),[Ob.var 107 [AV.sl 4 (List.map c_api_Token p_l),iA r.2.1,iA r.2.2.1,iA r.2.2.2.1,iA r.2.2.2.2]])
def IH_expr_parser_any (n : Nat) : Prop := OK_expr_parser_any n ∧ OK_expr_parser_both n ∧ OK_expr_parser_compared n ∧ OK_expr_parser_inner n ∧ OK_expr_parser_inner_1 n ∧ OK_expr_parser_product n ∧ OK_expr_parser_row n ∧ OK_expr_parser_row_1 n ∧ OK_expr_parser_row_2 n ∧ OK_expr_parser_row_3 n ∧ OK_expr_parser_row_4 n ∧ OK_expr_parser_single n ∧ OK_expr_parser_sum n
theorem st_expr_parser_any (n:Nat) (ih:IH_expr_parser_any n):OK_expr_parser_any (n+1):=by
 intro p_l p_i p_in p_e p_at r h
 rw [m_expr_parser_any] at h
 refine callN_eq' Tryz.func86 (by rfl) rfl rfl (Nat.le_of_ble_eq_true rfl) ?_
 intro call hc;conv=>lhs;whnf
 revert h
 refine cr hc (fun y1 h=>(show CN n 94 [AV.ptr 0 0,AV.func 95 [] [],bA false,AV.sl 1 [[iA (14)]]] [Ob.var 107 [AV.sl 4 (List.map c_api_Token p_l),iA p_i,iA p_in,iA p_e,iA p_at]]=some (AV.sl 5 (List.map c_api_Node y1.1),[Ob.var 107 [AV.sl 4 (List.map c_api_Token p_l),iA y1.2.1,iA y1.2.2.1,iA y1.2.2.2.1,iA y1.2.2.2.2]]) from ih.2.2.2.2.2.2.1 (r:=y1) h)) ?_;intro y1
 exact rz
theorem st_expr_parser_both (n:Nat) (ih:IH_expr_parser_any n):OK_expr_parser_both (n+1):=by
 intro p_l p_i p_in p_e p_at r h
 rw [m_expr_parser_both] at h
 refine callN_eq' Tryz.func95 (by rfl) rfl rfl (Nat.le_of_ble_eq_true rfl) ?_
 intro call hc;conv=>lhs;whnf
 revert h
 refine cr hc (fun y1 h=>(show CN n 94 [AV.ptr 0 0,AV.func 100 [] [],bA false,AV.sl 1 [[iA (13)]]] [Ob.var 107 [AV.sl 4 (List.map c_api_Token p_l),iA p_i,iA p_in,iA p_e,iA p_at]]=some (AV.sl 5 (List.map c_api_Node y1.1),[Ob.var 107 [AV.sl 4 (List.map c_api_Token p_l),iA y1.2.1,iA y1.2.2.1,iA y1.2.2.2.1,iA y1.2.2.2.2]]) from ih.2.2.2.2.2.2.2.1 (r:=y1) h)) ?_;intro y1
 exact rz
theorem st_expr_parser_compared (n:Nat) (ih:IH_expr_parser_any n):OK_expr_parser_compared (n+1):=by
 intro p_l p_i p_in p_e p_at r h
 rw [m_expr_parser_compared] at h
 refine callN_eq' Tryz.func100 (by rfl) rfl rfl (Nat.le_of_ble_eq_true rfl) ?_
 intro call hc;conv=>lhs;whnf
 revert h
 refine cr hc (fun y1 h=>(show CN n 94 [AV.ptr 0 0,AV.func 101 [] [],bA true,AV.sl 1 [[iA (9)],[iA (10)],[iA (11)],[iA (12)]]] [Ob.var 107 [AV.sl 4 (List.map c_api_Token p_l),iA p_i,iA p_in,iA p_e,iA p_at]]=some (AV.sl 5 (List.map c_api_Node y1.1),[Ob.var 107 [AV.sl 4 (List.map c_api_Token p_l),iA y1.2.1,iA y1.2.2.1,iA y1.2.2.2.1,iA y1.2.2.2.2]]) from ih.2.2.2.2.2.2.2.2.1 (r:=y1) h)) ?_;intro y1
 exact rz
theorem st_expr_parser_inner (n:Nat) (ih:IH_expr_parser_any n):OK_expr_parser_inner (n+1):=by
 intro p_l p_i p_in p_e p_at r h
 rw [m_expr_parser_inner] at h
 refine callN_eq' Tryz.func104 (by rfl) rfl rfl (Nat.le_of_ble_eq_true rfl) ?_
 intro call hc;conv=>lhs;whnf
 revert h
 refine br ?_ ?_
 refine ca hc (fun _ h=>ok_expr_parser_fail h) ?_;intro y2
 exact rz
 refine ca hc (fun _ h=>ih.2.2.2.2.2.2.2.2.2.2.2.1 h) ?_;intro y4
 exact rz
theorem st_expr_parser_inner_1 (n:Nat) (ih:IH_expr_parser_any n):OK_expr_parser_inner_1 (n+1):=by
 intro p_l p_i p_in p_e p_at r h
 rw [m_expr_parser_inner_1] at h
 refine callN_eq' Tryz.func104 (by rfl) rfl rfl (Nat.le_of_ble_eq_true rfl) ?_
 intro call hc;conv=>lhs;whnf
 revert h
 refine br ?_ ?_
 refine ca hc (fun _ h=>ok_expr_parser_fail h) ?_;intro y2
 exact rz
 refine ca hc (fun _ h=>ih.1 h) ?_;intro y4
 exact rz
theorem st_expr_parser_product (n:Nat) (ih:IH_expr_parser_any n):OK_expr_parser_product (n+1):=by
 intro p_l p_i p_in p_e p_at r h
 rw [m_expr_parser_product] at h
 refine callN_eq' Tryz.func102 (by rfl) rfl rfl (Nat.le_of_ble_eq_true rfl) ?_
 intro call hc;conv=>lhs;whnf
 revert h
 refine cr hc (fun y1 h=>(show CN n 94 [AV.ptr 0 0,AV.func 103 [] [],bA false,AV.sl 1 [[iA (8)]]] [Ob.var 107 [AV.sl 4 (List.map c_api_Token p_l),iA p_i,iA p_in,iA p_e,iA p_at]]=some (AV.sl 5 (List.map c_api_Node y1.1),[Ob.var 107 [AV.sl 4 (List.map c_api_Token p_l),iA y1.2.1,iA y1.2.2.1,iA y1.2.2.2.1,iA y1.2.2.2.2]]) from ih.2.2.2.2.2.2.2.2.2.2.1 (r:=y1) h)) ?_;intro y1
 exact rz
theorem st_expr_parser_row (n:Nat) (ih:IH_expr_parser_any n):OK_expr_parser_row (n+1):=by
 intro v2_once v3_ops p_l p_i p_in p_e p_at r h
 rw [m_expr_parser_row] at h
 refine callN_eq' Tryz.func94 (by rfl) rfl rfl (Nat.le_of_ble_eq_true rfl) ?_
 intro call hc;conv=>lhs;whnf
 revert h
 refine ca hc (fun _ h=>ih.2.1 h) ?_;intro y1
 intro h;refine bind_some2 h ?_;clear h;intro o16 ho16 h
 refine lq (σ:=(Bool×(List S_api_Node)×Int×Int×Int×Int)) (τ:=((List S_api_Node)×Int×Int×Int×Int)) (ν:=((List S_api_Node)×Int×Int×Int×Int)) 0 (fun (s3,s4,s5,s6,s7,s8) a10=>stOf 67 [(0,AV.ptr 0 0),(1,AV.func 95 [] []),(2,bA s3),(3,AV.sl 1 (List.map encI v3_ops)),(9,AV.sl 5 (List.map c_api_Node s4))]) (fun (s3,s4,s5,s6,s7,s8) a10=>[Ob.var 107 [AV.sl 4 (List.map c_api_Token p_l),iA s5,iA s6,iA s7,iA s8]]) (fun (x46,x47,x48,x49,x50) a45=>stOf 67 [(9,AV.sl 5 (List.map c_api_Node x46))]) (fun (x46,x47,x48,x49,x50) a45=>[Ob.var 107 [AV.sl 4 (List.map c_api_Token p_l),iA x47,iA x48,iA x49,iA x50]]) (fun v=>(AV.sl 5 (List.map c_api_Node v.1),[Ob.var 107 [AV.sl 4 (List.map c_api_Token p_l),iA v.2.1,iA v.2.2.1,iA v.2.2.2.1,iA v.2.2.2.2]])) (fun k s=>expr_parser_row_L0 n (m_expr_parser_both n) v3_ops p_l k s.1 s.2.1 s.2.2.1 s.2.2.2.1 s.2.2.2.2.1 s.2.2.2.2.2) (fun s=>rfl) o16 n (v2_once,y1.1,y1.2.1,y1.2.2.1,y1.2.2.2.1,y1.2.2.2.2) (fun _=>0) ho16 ?_ ?_
 intro k9 ss a10 K11 cont12 hK13 hcont14 h hr15
 obtain ⟨s3,s4,s5,s6,s7,s8⟩:=ss
 replace h:expr_parser_row_L0 n (m_expr_parser_both n) v3_ops p_l (k9+1) s3 s4 s5 s6 s7 s8=some o16:=h
 rw [expr_parser_row_L0] at h
 conv=>lhs;whnf
 revert h
 refine br ?_ ?_
 intro h;refine bind_some2 h ?_;clear h;intro o27 ho27 h
 refine lq (σ:=(Int×Int)) (τ:=Int) (ν:=((List S_api_Node)×Int×Int×Int×Int)) 2 (fun (s18,s19) a21=>stOf 67 [(0,AV.ptr 0 0),(1,AV.func 95 [] []),(2,bA s3),(3,AV.sl 1 (List.map encI v3_ops)),(9,AV.sl 5 (List.map c_api_Node s4)),(10,iA s18),(23,AV.sl 1 (List.map encI v3_ops)),(24,iA (((v3_ops.length:Nat):Int))),(25,iA s19)]) (fun (s18,s19) a21=>[Ob.var 107 [AV.sl 4 (List.map c_api_Token p_l),iA s5,iA s6,iA s7,iA s8]]) (fun x36 a35=>stOf 67 [(0,AV.ptr 0 0),(1,AV.func 95 [] []),(2,bA s3),(3,AV.sl 1 (List.map encI v3_ops)),(9,AV.sl 5 (List.map c_api_Node s4)),(10,iA x36)]) (fun x36 a35=>[Ob.var 107 [AV.sl 4 (List.map c_api_Token p_l),iA s5,iA s6,iA s7,iA s8]]) (fun v=>(AV.sl 5 (List.map c_api_Node v.1),[Ob.var 107 [AV.sl 4 (List.map c_api_Token p_l),iA v.2.1,iA v.2.2.1,iA v.2.2.2.1,iA v.2.2.2.2]])) (fun k s=>expr_parser_row_L1 n v3_ops p_l s5 s6 s7 s8 k s.1 s.2) (fun s=>rfl) o27 n (0,0) (fun _=>0) ho27 ?_ ?_
 intro k20 ss a21 K22 cont23 hK24 hcont25 h hr26
 obtain ⟨s18,s19⟩:=ss
 replace h:expr_parser_row_L1 n v3_ops p_l s5 s6 s7 s8 (k20+1) s18 s19=some o27:=h
 rw [expr_parser_row_L1] at h
 conv=>lhs;whnf
 revert h
 refine br ?_ ?_
 refine ix ?_;intro x29
 refine ca hc (fun _ h=>ok_expr_sign h) ?_;intro y30
 refine ca hc (fun _ h=>ok_expr_parser_is h) ?_;intro y32
 refine br ?_ ?_
 exact fun h=>cq (hcont25 (x29,IntKind.i64.wrap (s19+1)) (fun _=>0) h)
 exact fun h=>cq (hcont25 (s18,IntKind.i64.wrap (s19+1)) (fun _=>0) h)
 intro h;cases sj h
 exact kq (hr26 (fun _=>0))
 refine lrc ?_ ?_
 intro v e;subst e;cases sj h;exact hr15
 intro x36 a35 e;subst e
 dsimp only at h
 conv=>lhs;whnf
 revert h
 refine br ?_ ?_
 intro h;cases sj h
 exact kq (hr15 (fun _=>0))
 refine ix ?_;intro x38
 refine ca hc (fun _ h=>ih.2.1 h) ?_;intro y39
 refine cr hc (fun y41 h=>(show CN n 99 [AV.agg [iA x36,iA (0),sA (([]:List UInt8)),sA (([]:List UInt8)),iA x38.f_At],AV.sl 1 [[AV.sl 5 (List.map c_api_Node s4)],[AV.sl 5 (List.map c_api_Node y39.1)]]] []=some (AV.sl 5 (List.map c_api_Node y41),[]) from ok_expr_node (r:=y41) h)) ?_;intro y41
 refine br ?_ ?_
 intro h;cases sj h
 exact kq (hr15 (fun _=>0))
 exact fun h=>cq (hcont14 (false,y41,y39.2.1,y39.2.2.1,y39.2.2.2.1,y39.2.2.2.2) (fun _=>0) h)
 intro h;cases sj h
 exact kq (hr15 (fun _=>0))
 refine lrc ?_ ?_
 intro v e;subst e;cases sj h;rfl
 intro t a45 e;subst e
 obtain ⟨x46,x47,x48,x49,x50⟩:=t
 dsimp only at h
 conv=>lhs;whnf
 revert h
 exact rz
theorem st_expr_parser_row_1 (n:Nat) (ih:IH_expr_parser_any n):OK_expr_parser_row_1 (n+1):=by
 intro v2_once v3_ops p_l p_i p_in p_e p_at r h
 rw [m_expr_parser_row_1] at h
 refine callN_eq' Tryz.func94 (by rfl) rfl rfl (Nat.le_of_ble_eq_true rfl) ?_
 intro call hc;conv=>lhs;whnf
 revert h
 refine ca hc (fun _ h=>ih.2.2.1 h) ?_;intro y1
 intro h;refine bind_some2 h ?_;clear h;intro o16 ho16 h
 refine lq (σ:=(Bool×(List S_api_Node)×Int×Int×Int×Int)) (τ:=((List S_api_Node)×Int×Int×Int×Int)) (ν:=((List S_api_Node)×Int×Int×Int×Int)) 0 (fun (s3,s4,s5,s6,s7,s8) a10=>stOf 67 [(0,AV.ptr 0 0),(1,AV.func 100 [] []),(2,bA s3),(3,AV.sl 1 (List.map encI v3_ops)),(9,AV.sl 5 (List.map c_api_Node s4))]) (fun (s3,s4,s5,s6,s7,s8) a10=>[Ob.var 107 [AV.sl 4 (List.map c_api_Token p_l),iA s5,iA s6,iA s7,iA s8]]) (fun (x46,x47,x48,x49,x50) a45=>stOf 67 [(9,AV.sl 5 (List.map c_api_Node x46))]) (fun (x46,x47,x48,x49,x50) a45=>[Ob.var 107 [AV.sl 4 (List.map c_api_Token p_l),iA x47,iA x48,iA x49,iA x50]]) (fun v=>(AV.sl 5 (List.map c_api_Node v.1),[Ob.var 107 [AV.sl 4 (List.map c_api_Token p_l),iA v.2.1,iA v.2.2.1,iA v.2.2.2.1,iA v.2.2.2.2]])) (fun k s=>expr_parser_row_1_L0 n (m_expr_parser_compared n) v3_ops p_l k s.1 s.2.1 s.2.2.1 s.2.2.2.1 s.2.2.2.2.1 s.2.2.2.2.2) (fun s=>rfl) o16 n (v2_once,y1.1,y1.2.1,y1.2.2.1,y1.2.2.2.1,y1.2.2.2.2) (fun _=>0) ho16 ?_ ?_
 intro k9 ss a10 K11 cont12 hK13 hcont14 h hr15
 obtain ⟨s3,s4,s5,s6,s7,s8⟩:=ss
 replace h:expr_parser_row_1_L0 n (m_expr_parser_compared n) v3_ops p_l (k9+1) s3 s4 s5 s6 s7 s8=some o16:=h
 rw [expr_parser_row_1_L0] at h
 conv=>lhs;whnf
 revert h
 refine br ?_ ?_
 intro h;refine bind_some2 h ?_;clear h;intro o27 ho27 h
 refine lq (σ:=(Int×Int)) (τ:=Int) (ν:=((List S_api_Node)×Int×Int×Int×Int)) 2 (fun (s18,s19) a21=>stOf 67 [(0,AV.ptr 0 0),(1,AV.func 100 [] []),(2,bA s3),(3,AV.sl 1 (List.map encI v3_ops)),(9,AV.sl 5 (List.map c_api_Node s4)),(10,iA s18),(23,AV.sl 1 (List.map encI v3_ops)),(24,iA (((v3_ops.length:Nat):Int))),(25,iA s19)]) (fun (s18,s19) a21=>[Ob.var 107 [AV.sl 4 (List.map c_api_Token p_l),iA s5,iA s6,iA s7,iA s8]]) (fun x36 a35=>stOf 67 [(0,AV.ptr 0 0),(1,AV.func 100 [] []),(2,bA s3),(3,AV.sl 1 (List.map encI v3_ops)),(9,AV.sl 5 (List.map c_api_Node s4)),(10,iA x36)]) (fun x36 a35=>[Ob.var 107 [AV.sl 4 (List.map c_api_Token p_l),iA s5,iA s6,iA s7,iA s8]]) (fun v=>(AV.sl 5 (List.map c_api_Node v.1),[Ob.var 107 [AV.sl 4 (List.map c_api_Token p_l),iA v.2.1,iA v.2.2.1,iA v.2.2.2.1,iA v.2.2.2.2]])) (fun k s=>expr_parser_row_1_L1 n v3_ops p_l s5 s6 s7 s8 k s.1 s.2) (fun s=>rfl) o27 n (0,0) (fun _=>0) ho27 ?_ ?_
 intro k20 ss a21 K22 cont23 hK24 hcont25 h hr26
 obtain ⟨s18,s19⟩:=ss
 replace h:expr_parser_row_1_L1 n v3_ops p_l s5 s6 s7 s8 (k20+1) s18 s19=some o27:=h
 rw [expr_parser_row_1_L1] at h
 conv=>lhs;whnf
 revert h
 refine br ?_ ?_
 refine ix ?_;intro x29
 refine ca hc (fun _ h=>ok_expr_sign h) ?_;intro y30
 refine ca hc (fun _ h=>ok_expr_parser_is h) ?_;intro y32
 refine br ?_ ?_
 exact fun h=>cq (hcont25 (x29,IntKind.i64.wrap (s19+1)) (fun _=>0) h)
 exact fun h=>cq (hcont25 (s18,IntKind.i64.wrap (s19+1)) (fun _=>0) h)
 intro h;cases sj h
 exact kq (hr26 (fun _=>0))
 refine lrc ?_ ?_
 intro v e;subst e;cases sj h;exact hr15
 intro x36 a35 e;subst e
 dsimp only at h
 conv=>lhs;whnf
 revert h
 refine br ?_ ?_
 intro h;cases sj h
 exact kq (hr15 (fun _=>0))
 refine ix ?_;intro x38
 refine ca hc (fun _ h=>ih.2.2.1 h) ?_;intro y39
 refine cr hc (fun y41 h=>(show CN n 99 [AV.agg [iA x36,iA (0),sA (([]:List UInt8)),sA (([]:List UInt8)),iA x38.f_At],AV.sl 1 [[AV.sl 5 (List.map c_api_Node s4)],[AV.sl 5 (List.map c_api_Node y39.1)]]] []=some (AV.sl 5 (List.map c_api_Node y41),[]) from ok_expr_node (r:=y41) h)) ?_;intro y41
 refine br ?_ ?_
 intro h;cases sj h
 exact kq (hr15 (fun _=>0))
 exact fun h=>cq (hcont14 (false,y41,y39.2.1,y39.2.2.1,y39.2.2.2.1,y39.2.2.2.2) (fun _=>0) h)
 intro h;cases sj h
 exact kq (hr15 (fun _=>0))
 refine lrc ?_ ?_
 intro v e;subst e;cases sj h;rfl
 intro t a45 e;subst e
 obtain ⟨x46,x47,x48,x49,x50⟩:=t
 dsimp only at h
 conv=>lhs;whnf
 revert h
 exact rz
theorem st_expr_parser_row_2 (n:Nat) (ih:IH_expr_parser_any n):OK_expr_parser_row_2 (n+1):=by
 intro v2_once v3_ops p_l p_i p_in p_e p_at r h
 rw [m_expr_parser_row_2] at h
 refine callN_eq' Tryz.func94 (by rfl) rfl rfl (Nat.le_of_ble_eq_true rfl) ?_
 intro call hc;conv=>lhs;whnf
 revert h
 refine ca hc (fun _ h=>ih.2.2.2.2.2.2.2.2.2.2.2.2 h) ?_;intro y1
 intro h;refine bind_some2 h ?_;clear h;intro o16 ho16 h
 refine lq (σ:=(Bool×(List S_api_Node)×Int×Int×Int×Int)) (τ:=((List S_api_Node)×Int×Int×Int×Int)) (ν:=((List S_api_Node)×Int×Int×Int×Int)) 0 (fun (s3,s4,s5,s6,s7,s8) a10=>stOf 67 [(0,AV.ptr 0 0),(1,AV.func 101 [] []),(2,bA s3),(3,AV.sl 1 (List.map encI v3_ops)),(9,AV.sl 5 (List.map c_api_Node s4))]) (fun (s3,s4,s5,s6,s7,s8) a10=>[Ob.var 107 [AV.sl 4 (List.map c_api_Token p_l),iA s5,iA s6,iA s7,iA s8]]) (fun (x46,x47,x48,x49,x50) a45=>stOf 67 [(9,AV.sl 5 (List.map c_api_Node x46))]) (fun (x46,x47,x48,x49,x50) a45=>[Ob.var 107 [AV.sl 4 (List.map c_api_Token p_l),iA x47,iA x48,iA x49,iA x50]]) (fun v=>(AV.sl 5 (List.map c_api_Node v.1),[Ob.var 107 [AV.sl 4 (List.map c_api_Token p_l),iA v.2.1,iA v.2.2.1,iA v.2.2.2.1,iA v.2.2.2.2]])) (fun k s=>expr_parser_row_2_L0 n (m_expr_parser_sum n) v3_ops p_l k s.1 s.2.1 s.2.2.1 s.2.2.2.1 s.2.2.2.2.1 s.2.2.2.2.2) (fun s=>rfl) o16 n (v2_once,y1.1,y1.2.1,y1.2.2.1,y1.2.2.2.1,y1.2.2.2.2) (fun _=>0) ho16 ?_ ?_
 intro k9 ss a10 K11 cont12 hK13 hcont14 h hr15
 obtain ⟨s3,s4,s5,s6,s7,s8⟩:=ss
 replace h:expr_parser_row_2_L0 n (m_expr_parser_sum n) v3_ops p_l (k9+1) s3 s4 s5 s6 s7 s8=some o16:=h
 rw [expr_parser_row_2_L0] at h
 conv=>lhs;whnf
 revert h
 refine br ?_ ?_
 intro h;refine bind_some2 h ?_;clear h;intro o27 ho27 h
 refine lq (σ:=(Int×Int)) (τ:=Int) (ν:=((List S_api_Node)×Int×Int×Int×Int)) 2 (fun (s18,s19) a21=>stOf 67 [(0,AV.ptr 0 0),(1,AV.func 101 [] []),(2,bA s3),(3,AV.sl 1 (List.map encI v3_ops)),(9,AV.sl 5 (List.map c_api_Node s4)),(10,iA s18),(23,AV.sl 1 (List.map encI v3_ops)),(24,iA (((v3_ops.length:Nat):Int))),(25,iA s19)]) (fun (s18,s19) a21=>[Ob.var 107 [AV.sl 4 (List.map c_api_Token p_l),iA s5,iA s6,iA s7,iA s8]]) (fun x36 a35=>stOf 67 [(0,AV.ptr 0 0),(1,AV.func 101 [] []),(2,bA s3),(3,AV.sl 1 (List.map encI v3_ops)),(9,AV.sl 5 (List.map c_api_Node s4)),(10,iA x36)]) (fun x36 a35=>[Ob.var 107 [AV.sl 4 (List.map c_api_Token p_l),iA s5,iA s6,iA s7,iA s8]]) (fun v=>(AV.sl 5 (List.map c_api_Node v.1),[Ob.var 107 [AV.sl 4 (List.map c_api_Token p_l),iA v.2.1,iA v.2.2.1,iA v.2.2.2.1,iA v.2.2.2.2]])) (fun k s=>expr_parser_row_2_L1 n v3_ops p_l s5 s6 s7 s8 k s.1 s.2) (fun s=>rfl) o27 n (0,0) (fun _=>0) ho27 ?_ ?_
 intro k20 ss a21 K22 cont23 hK24 hcont25 h hr26
 obtain ⟨s18,s19⟩:=ss
 replace h:expr_parser_row_2_L1 n v3_ops p_l s5 s6 s7 s8 (k20+1) s18 s19=some o27:=h
 rw [expr_parser_row_2_L1] at h
 conv=>lhs;whnf
 revert h
 refine br ?_ ?_
 refine ix ?_;intro x29
 refine ca hc (fun _ h=>ok_expr_sign h) ?_;intro y30
 refine ca hc (fun _ h=>ok_expr_parser_is h) ?_;intro y32
 refine br ?_ ?_
 exact fun h=>cq (hcont25 (x29,IntKind.i64.wrap (s19+1)) (fun _=>0) h)
 exact fun h=>cq (hcont25 (s18,IntKind.i64.wrap (s19+1)) (fun _=>0) h)
 intro h;cases sj h
 exact kq (hr26 (fun _=>0))
 refine lrc ?_ ?_
 intro v e;subst e;cases sj h;exact hr15
 intro x36 a35 e;subst e
 dsimp only at h
 conv=>lhs;whnf
 revert h
 refine br ?_ ?_
 intro h;cases sj h
 exact kq (hr15 (fun _=>0))
 refine ix ?_;intro x38
 refine ca hc (fun _ h=>ih.2.2.2.2.2.2.2.2.2.2.2.2 h) ?_;intro y39
 refine cr hc (fun y41 h=>(show CN n 99 [AV.agg [iA x36,iA (0),sA (([]:List UInt8)),sA (([]:List UInt8)),iA x38.f_At],AV.sl 1 [[AV.sl 5 (List.map c_api_Node s4)],[AV.sl 5 (List.map c_api_Node y39.1)]]] []=some (AV.sl 5 (List.map c_api_Node y41),[]) from ok_expr_node (r:=y41) h)) ?_;intro y41
 refine br ?_ ?_
 intro h;cases sj h
 exact kq (hr15 (fun _=>0))
 exact fun h=>cq (hcont14 (false,y41,y39.2.1,y39.2.2.1,y39.2.2.2.1,y39.2.2.2.2) (fun _=>0) h)
 intro h;cases sj h
 exact kq (hr15 (fun _=>0))
 refine lrc ?_ ?_
 intro v e;subst e;cases sj h;rfl
 intro t a45 e;subst e
 obtain ⟨x46,x47,x48,x49,x50⟩:=t
 dsimp only at h
 conv=>lhs;whnf
 revert h
 exact rz
theorem st_expr_parser_row_3 (n:Nat) (ih:IH_expr_parser_any n):OK_expr_parser_row_3 (n+1):=by
 intro v2_once v3_ops p_l p_i p_in p_e p_at r h
 rw [m_expr_parser_row_3] at h
 refine callN_eq' Tryz.func94 (by rfl) rfl rfl (Nat.le_of_ble_eq_true rfl) ?_
 intro call hc;conv=>lhs;whnf
 revert h
 refine ca hc (fun _ h=>ih.2.2.2.2.2.1 h) ?_;intro y1
 intro h;refine bind_some2 h ?_;clear h;intro o16 ho16 h
 refine lq (σ:=(Bool×(List S_api_Node)×Int×Int×Int×Int)) (τ:=((List S_api_Node)×Int×Int×Int×Int)) (ν:=((List S_api_Node)×Int×Int×Int×Int)) 0 (fun (s3,s4,s5,s6,s7,s8) a10=>stOf 67 [(0,AV.ptr 0 0),(1,AV.func 102 [] []),(2,bA s3),(3,AV.sl 1 (List.map encI v3_ops)),(9,AV.sl 5 (List.map c_api_Node s4))]) (fun (s3,s4,s5,s6,s7,s8) a10=>[Ob.var 107 [AV.sl 4 (List.map c_api_Token p_l),iA s5,iA s6,iA s7,iA s8]]) (fun (x46,x47,x48,x49,x50) a45=>stOf 67 [(9,AV.sl 5 (List.map c_api_Node x46))]) (fun (x46,x47,x48,x49,x50) a45=>[Ob.var 107 [AV.sl 4 (List.map c_api_Token p_l),iA x47,iA x48,iA x49,iA x50]]) (fun v=>(AV.sl 5 (List.map c_api_Node v.1),[Ob.var 107 [AV.sl 4 (List.map c_api_Token p_l),iA v.2.1,iA v.2.2.1,iA v.2.2.2.1,iA v.2.2.2.2]])) (fun k s=>expr_parser_row_3_L0 n (m_expr_parser_product n) v3_ops p_l k s.1 s.2.1 s.2.2.1 s.2.2.2.1 s.2.2.2.2.1 s.2.2.2.2.2) (fun s=>rfl) o16 n (v2_once,y1.1,y1.2.1,y1.2.2.1,y1.2.2.2.1,y1.2.2.2.2) (fun _=>0) ho16 ?_ ?_
 intro k9 ss a10 K11 cont12 hK13 hcont14 h hr15
 obtain ⟨s3,s4,s5,s6,s7,s8⟩:=ss
 replace h:expr_parser_row_3_L0 n (m_expr_parser_product n) v3_ops p_l (k9+1) s3 s4 s5 s6 s7 s8=some o16:=h
 rw [expr_parser_row_3_L0] at h
 conv=>lhs;whnf
 revert h
 refine br ?_ ?_
 intro h;refine bind_some2 h ?_;clear h;intro o27 ho27 h
 refine lq (σ:=(Int×Int)) (τ:=Int) (ν:=((List S_api_Node)×Int×Int×Int×Int)) 2 (fun (s18,s19) a21=>stOf 67 [(0,AV.ptr 0 0),(1,AV.func 102 [] []),(2,bA s3),(3,AV.sl 1 (List.map encI v3_ops)),(9,AV.sl 5 (List.map c_api_Node s4)),(10,iA s18),(23,AV.sl 1 (List.map encI v3_ops)),(24,iA (((v3_ops.length:Nat):Int))),(25,iA s19)]) (fun (s18,s19) a21=>[Ob.var 107 [AV.sl 4 (List.map c_api_Token p_l),iA s5,iA s6,iA s7,iA s8]]) (fun x36 a35=>stOf 67 [(0,AV.ptr 0 0),(1,AV.func 102 [] []),(2,bA s3),(3,AV.sl 1 (List.map encI v3_ops)),(9,AV.sl 5 (List.map c_api_Node s4)),(10,iA x36)]) (fun x36 a35=>[Ob.var 107 [AV.sl 4 (List.map c_api_Token p_l),iA s5,iA s6,iA s7,iA s8]]) (fun v=>(AV.sl 5 (List.map c_api_Node v.1),[Ob.var 107 [AV.sl 4 (List.map c_api_Token p_l),iA v.2.1,iA v.2.2.1,iA v.2.2.2.1,iA v.2.2.2.2]])) (fun k s=>expr_parser_row_3_L1 n v3_ops p_l s5 s6 s7 s8 k s.1 s.2) (fun s=>rfl) o27 n (0,0) (fun _=>0) ho27 ?_ ?_
 intro k20 ss a21 K22 cont23 hK24 hcont25 h hr26
 obtain ⟨s18,s19⟩:=ss
 replace h:expr_parser_row_3_L1 n v3_ops p_l s5 s6 s7 s8 (k20+1) s18 s19=some o27:=h
 rw [expr_parser_row_3_L1] at h
 conv=>lhs;whnf
 revert h
 refine br ?_ ?_
 refine ix ?_;intro x29
 refine ca hc (fun _ h=>ok_expr_sign h) ?_;intro y30
 refine ca hc (fun _ h=>ok_expr_parser_is h) ?_;intro y32
 refine br ?_ ?_
 exact fun h=>cq (hcont25 (x29,IntKind.i64.wrap (s19+1)) (fun _=>0) h)
 exact fun h=>cq (hcont25 (s18,IntKind.i64.wrap (s19+1)) (fun _=>0) h)
 intro h;cases sj h
 exact kq (hr26 (fun _=>0))
 refine lrc ?_ ?_
 intro v e;subst e;cases sj h;exact hr15
 intro x36 a35 e;subst e
 dsimp only at h
 conv=>lhs;whnf
 revert h
 refine br ?_ ?_
 intro h;cases sj h
 exact kq (hr15 (fun _=>0))
 refine ix ?_;intro x38
 refine ca hc (fun _ h=>ih.2.2.2.2.2.1 h) ?_;intro y39
 refine cr hc (fun y41 h=>(show CN n 99 [AV.agg [iA x36,iA (0),sA (([]:List UInt8)),sA (([]:List UInt8)),iA x38.f_At],AV.sl 1 [[AV.sl 5 (List.map c_api_Node s4)],[AV.sl 5 (List.map c_api_Node y39.1)]]] []=some (AV.sl 5 (List.map c_api_Node y41),[]) from ok_expr_node (r:=y41) h)) ?_;intro y41
 refine br ?_ ?_
 intro h;cases sj h
 exact kq (hr15 (fun _=>0))
 exact fun h=>cq (hcont14 (false,y41,y39.2.1,y39.2.2.1,y39.2.2.2.1,y39.2.2.2.2) (fun _=>0) h)
 intro h;cases sj h
 exact kq (hr15 (fun _=>0))
 refine lrc ?_ ?_
 intro v e;subst e;cases sj h;rfl
 intro t a45 e;subst e
 obtain ⟨x46,x47,x48,x49,x50⟩:=t
 dsimp only at h
 conv=>lhs;whnf
 revert h
 exact rz
theorem st_expr_parser_row_4 (n:Nat) (ih:IH_expr_parser_any n):OK_expr_parser_row_4 (n+1):=by
 intro v2_once v3_ops p_l p_i p_in p_e p_at r h
 rw [m_expr_parser_row_4] at h
 refine callN_eq' Tryz.func94 (by rfl) rfl rfl (Nat.le_of_ble_eq_true rfl) ?_
 intro call hc;conv=>lhs;whnf
 revert h
 refine ca hc (fun _ h=>ih.2.2.2.2.2.2.2.2.2.2.2.1 h) ?_;intro y1
 intro h;refine bind_some2 h ?_;clear h;intro o16 ho16 h
 refine lq (σ:=(Bool×(List S_api_Node)×Int×Int×Int×Int)) (τ:=((List S_api_Node)×Int×Int×Int×Int)) (ν:=((List S_api_Node)×Int×Int×Int×Int)) 0 (fun (s3,s4,s5,s6,s7,s8) a10=>stOf 67 [(0,AV.ptr 0 0),(1,AV.func 103 [] []),(2,bA s3),(3,AV.sl 1 (List.map encI v3_ops)),(9,AV.sl 5 (List.map c_api_Node s4))]) (fun (s3,s4,s5,s6,s7,s8) a10=>[Ob.var 107 [AV.sl 4 (List.map c_api_Token p_l),iA s5,iA s6,iA s7,iA s8]]) (fun (x46,x47,x48,x49,x50) a45=>stOf 67 [(9,AV.sl 5 (List.map c_api_Node x46))]) (fun (x46,x47,x48,x49,x50) a45=>[Ob.var 107 [AV.sl 4 (List.map c_api_Token p_l),iA x47,iA x48,iA x49,iA x50]]) (fun v=>(AV.sl 5 (List.map c_api_Node v.1),[Ob.var 107 [AV.sl 4 (List.map c_api_Token p_l),iA v.2.1,iA v.2.2.1,iA v.2.2.2.1,iA v.2.2.2.2]])) (fun k s=>expr_parser_row_4_L0 n (m_expr_parser_single n) v3_ops p_l k s.1 s.2.1 s.2.2.1 s.2.2.2.1 s.2.2.2.2.1 s.2.2.2.2.2) (fun s=>rfl) o16 n (v2_once,y1.1,y1.2.1,y1.2.2.1,y1.2.2.2.1,y1.2.2.2.2) (fun _=>0) ho16 ?_ ?_
 intro k9 ss a10 K11 cont12 hK13 hcont14 h hr15
 obtain ⟨s3,s4,s5,s6,s7,s8⟩:=ss
 replace h:expr_parser_row_4_L0 n (m_expr_parser_single n) v3_ops p_l (k9+1) s3 s4 s5 s6 s7 s8=some o16:=h
 rw [expr_parser_row_4_L0] at h
 conv=>lhs;whnf
 revert h
 refine br ?_ ?_
 intro h;refine bind_some2 h ?_;clear h;intro o27 ho27 h
 refine lq (σ:=(Int×Int)) (τ:=Int) (ν:=((List S_api_Node)×Int×Int×Int×Int)) 2 (fun (s18,s19) a21=>stOf 67 [(0,AV.ptr 0 0),(1,AV.func 103 [] []),(2,bA s3),(3,AV.sl 1 (List.map encI v3_ops)),(9,AV.sl 5 (List.map c_api_Node s4)),(10,iA s18),(23,AV.sl 1 (List.map encI v3_ops)),(24,iA (((v3_ops.length:Nat):Int))),(25,iA s19)]) (fun (s18,s19) a21=>[Ob.var 107 [AV.sl 4 (List.map c_api_Token p_l),iA s5,iA s6,iA s7,iA s8]]) (fun x36 a35=>stOf 67 [(0,AV.ptr 0 0),(1,AV.func 103 [] []),(2,bA s3),(3,AV.sl 1 (List.map encI v3_ops)),(9,AV.sl 5 (List.map c_api_Node s4)),(10,iA x36)]) (fun x36 a35=>[Ob.var 107 [AV.sl 4 (List.map c_api_Token p_l),iA s5,iA s6,iA s7,iA s8]]) (fun v=>(AV.sl 5 (List.map c_api_Node v.1),[Ob.var 107 [AV.sl 4 (List.map c_api_Token p_l),iA v.2.1,iA v.2.2.1,iA v.2.2.2.1,iA v.2.2.2.2]])) (fun k s=>expr_parser_row_4_L1 n v3_ops p_l s5 s6 s7 s8 k s.1 s.2) (fun s=>rfl) o27 n (0,0) (fun _=>0) ho27 ?_ ?_
 intro k20 ss a21 K22 cont23 hK24 hcont25 h hr26
 obtain ⟨s18,s19⟩:=ss
 replace h:expr_parser_row_4_L1 n v3_ops p_l s5 s6 s7 s8 (k20+1) s18 s19=some o27:=h
 rw [expr_parser_row_4_L1] at h
 conv=>lhs;whnf
 revert h
 refine br ?_ ?_
 refine ix ?_;intro x29
 refine ca hc (fun _ h=>ok_expr_sign h) ?_;intro y30
 refine ca hc (fun _ h=>ok_expr_parser_is h) ?_;intro y32
 refine br ?_ ?_
 exact fun h=>cq (hcont25 (x29,IntKind.i64.wrap (s19+1)) (fun _=>0) h)
 exact fun h=>cq (hcont25 (s18,IntKind.i64.wrap (s19+1)) (fun _=>0) h)
 intro h;cases sj h
 exact kq (hr26 (fun _=>0))
 refine lrc ?_ ?_
 intro v e;subst e;cases sj h;exact hr15
 intro x36 a35 e;subst e
 dsimp only at h
 conv=>lhs;whnf
 revert h
 refine br ?_ ?_
 intro h;cases sj h
 exact kq (hr15 (fun _=>0))
 refine ix ?_;intro x38
 refine ca hc (fun _ h=>ih.2.2.2.2.2.2.2.2.2.2.2.1 h) ?_;intro y39
 refine cr hc (fun y41 h=>(show CN n 99 [AV.agg [iA x36,iA (0),sA (([]:List UInt8)),sA (([]:List UInt8)),iA x38.f_At],AV.sl 1 [[AV.sl 5 (List.map c_api_Node s4)],[AV.sl 5 (List.map c_api_Node y39.1)]]] []=some (AV.sl 5 (List.map c_api_Node y41),[]) from ok_expr_node (r:=y41) h)) ?_;intro y41
 refine br ?_ ?_
 intro h;cases sj h
 exact kq (hr15 (fun _=>0))
 exact fun h=>cq (hcont14 (false,y41,y39.2.1,y39.2.2.1,y39.2.2.2.1,y39.2.2.2.2) (fun _=>0) h)
 intro h;cases sj h
 exact kq (hr15 (fun _=>0))
 refine lrc ?_ ?_
 intro v e;subst e;cases sj h;rfl
 intro t a45 e;subst e
 obtain ⟨x46,x47,x48,x49,x50⟩:=t
 dsimp only at h
 conv=>lhs;whnf
 revert h
 exact rz
theorem st_expr_parser_single (n:Nat) (ih:IH_expr_parser_any n):OK_expr_parser_single (n+1):=by
 intro p_l p_i p_in p_e p_at r h
 rw [m_expr_parser_single] at h
 refine callN_eq' Tryz.func103 (by rfl) rfl rfl (Nat.le_of_ble_eq_true rfl) ?_
 intro call hc;conv=>lhs;whnf
 revert h
 refine br ?_ ?_
 exact rz
 refine ca hc (fun _ h=>ok_expr_parser_is h) ?_;intro y2
 refine br ?_ ?_
 refine ix ?_;intro x5
 refine ca hc (fun _ h=>ih.2.2.2.1 h) ?_;intro y6
 refine cr hc (fun y8 h=>(show CN n 99 [AV.agg [iA (5),iA (0),sA (([]:List UInt8)),sA (([]:List UInt8)),iA x5.f_At],AV.sl 1 [[AV.sl 5 (List.map c_api_Node y6.1)]]] []=some (AV.sl 5 (List.map c_api_Node y8),[]) from ok_expr_node (r:=y8) h)) ?_;intro y8
 exact rz
 refine ca hc (fun _ h=>ok_expr_parser_is h) ?_;intro y10
 refine br ?_ ?_
 refine ca hc (fun _ h=>ih.2.2.2.2.1 h) ?_;intro y13
 refine br ?_ ?_
 refine ca hc (fun _ h=>ok_expr_parser_is h) ?_;intro y16
 refine br ?_ ?_
 exact rz
 refine ca hc (fun _ h=>ok_expr_parser_fail h) ?_;intro y19
 exact rz
 exact rz
 refine br ?_ ?_
 refine ix ?_;intro x22
 refine br ?_ ?_
 refine ix ?_;intro x24
 refine cr hc (fun y25 h=>(show CN n 99 [AV.agg [iA (1),iA x24.f_N,sA (([]:List UInt8)),sA (([]:List UInt8)),iA x24.f_At],AV.sl 1 []] []=some (AV.sl 5 (List.map c_api_Node y25),[]) from ok_expr_node (r:=y25) h)) ?_;intro y25
 exact rz
 refine ca hc (fun _ h=>ok_expr_parser_name h) ?_;intro y27
 refine br ?_ ?_
 refine ca hc (fun _ h=>ok_expr_parser_is h) ?_;intro y30
 refine br ?_ ?_
 refine ca hc (fun _ h=>ok_expr_parser_name h) ?_;intro y33
 refine br ?_ ?_
 refine cr hc (fun y36 h=>(show CN n 99 [AV.agg [iA (4),iA (0),sA y33.1,sA y27.1,iA y27.2.1],AV.sl 1 []] []=some (AV.sl 5 (List.map c_api_Node y36),[]) from ok_expr_node (r:=y36) h)) ?_;intro y36
 exact rz
 refine ca hc (fun _ h=>ok_expr_parser_fail h) ?_;intro y38
 exact rz
 refine cr hc (fun y40 h=>(show CN n 99 [AV.agg [iA (2),iA (0),sA y27.1,sA (([]:List UInt8)),iA y27.2.1],AV.sl 1 []] []=some (AV.sl 5 (List.map c_api_Node y40),[]) from ok_expr_node (r:=y40) h)) ?_;intro y40
 exact rz
 refine ca hc (fun _ h=>ok_expr_parser_fail h) ?_;intro y42
 exact rz
 refine ca hc (fun _ h=>ok_expr_parser_name h) ?_;intro y44
 refine br ?_ ?_
 refine ca hc (fun _ h=>ok_expr_parser_is h) ?_;intro y47
 refine br ?_ ?_
 refine ca hc (fun _ h=>ok_expr_parser_name h) ?_;intro y50
 refine br ?_ ?_
 refine cr hc (fun y53 h=>(show CN n 99 [AV.agg [iA (4),iA (0),sA y50.1,sA y44.1,iA y44.2.1],AV.sl 1 []] []=some (AV.sl 5 (List.map c_api_Node y53),[]) from ok_expr_node (r:=y53) h)) ?_;intro y53
 exact rz
 refine ca hc (fun _ h=>ok_expr_parser_fail h) ?_;intro y55
 exact rz
 refine cr hc (fun y57 h=>(show CN n 99 [AV.agg [iA (2),iA (0),sA y44.1,sA (([]:List UInt8)),iA y44.2.1],AV.sl 1 []] []=some (AV.sl 5 (List.map c_api_Node y57),[]) from ok_expr_node (r:=y57) h)) ?_;intro y57
 exact rz
 refine ca hc (fun _ h=>ok_expr_parser_fail h) ?_;intro y59
 exact rz
theorem st_expr_parser_sum (n:Nat) (ih:IH_expr_parser_any n):OK_expr_parser_sum (n+1):=by
 intro p_l p_i p_in p_e p_at r h
 rw [m_expr_parser_sum] at h
 refine callN_eq' Tryz.func101 (by rfl) rfl rfl (Nat.le_of_ble_eq_true rfl) ?_
 intro call hc;conv=>lhs;whnf
 revert h
 refine cr hc (fun y1 h=>(show CN n 94 [AV.ptr 0 0,AV.func 102 [] [],bA false,AV.sl 1 [[iA (6)],[iA (7)]]] [Ob.var 107 [AV.sl 4 (List.map c_api_Token p_l),iA p_i,iA p_in,iA p_e,iA p_at]]=some (AV.sl 5 (List.map c_api_Node y1.1),[Ob.var 107 [AV.sl 4 (List.map c_api_Token p_l),iA y1.2.1,iA y1.2.2.1,iA y1.2.2.2.1,iA y1.2.2.2.2]]) from ih.2.2.2.2.2.2.2.2.2.1 (r:=y1) h)) ?_;intro y1
 exact rz
theorem all_expr_parser_any : ∀ n, IH_expr_parser_any n
  | 0 => ⟨by unfold OK_expr_parser_any; intros; rename_i h; exact absurd h (by intro h; cases h), by unfold OK_expr_parser_both; intros; rename_i h; exact absurd h (by intro h; cases h), by unfold OK_expr_parser_compared; intros; rename_i h; exact absurd h (by intro h; cases h), by unfold OK_expr_parser_inner; intros; rename_i h; exact absurd h (by intro h; cases h), by unfold OK_expr_parser_inner_1; intros; rename_i h; exact absurd h (by intro h; cases h), by unfold OK_expr_parser_product; intros; rename_i h; exact absurd h (by intro h; cases h), by unfold OK_expr_parser_row; intros; rename_i h; exact absurd h (by intro h; cases h), by unfold OK_expr_parser_row_1; intros; rename_i h; exact absurd h (by intro h; cases h), by unfold OK_expr_parser_row_2; intros; rename_i h; exact absurd h (by intro h; cases h), by unfold OK_expr_parser_row_3; intros; rename_i h; exact absurd h (by intro h; cases h), by unfold OK_expr_parser_row_4; intros; rename_i h; exact absurd h (by intro h; cases h), by unfold OK_expr_parser_single; intros; rename_i h; exact absurd h (by intro h; cases h), by unfold OK_expr_parser_sum; intros; rename_i h; exact absurd h (by intro h; cases h)⟩
  | n + 1 => have ih := all_expr_parser_any n
    ⟨st_expr_parser_any n ih, st_expr_parser_both n ih, st_expr_parser_compared n ih, st_expr_parser_inner n ih, st_expr_parser_inner_1 n ih, st_expr_parser_product n ih, st_expr_parser_row n ih, st_expr_parser_row_1 n ih, st_expr_parser_row_2 n ih, st_expr_parser_row_3 n ih, st_expr_parser_row_4 n ih, st_expr_parser_single n ih, st_expr_parser_sum n ih⟩
theorem ok_expr_parser_any {n : Nat} : OK_expr_parser_any n := (all_expr_parser_any n).1
theorem ok_expr_Parse {n:Nat} ⦃v0_l:(List S_api_Token)⦄ ⦃v1_i:Int⦄ ⦃r:((List S_api_Node)×Int×Int×Int)⦄:m_expr_Parse n v0_l v1_i=some r→CN n 77 [AV.sl 4 (List.map c_api_Token v0_l),iA v1_i] []=some (AV.tup [AV.sl 5 (List.map c_api_Node r.1),iA r.2.1,iA r.2.2.1,iA r.2.2.2],[]):=by
 intro h;rcases n with _|n;cases h
 rw [m_expr_Parse] at h
 refine callN_eq' Tryz.func77 (by rfl) rfl rfl (Nat.le_of_ble_eq_true rfl) ?_
 intro call hc;conv=>lhs;whnf
 revert h
 refine br ?_ ?_
 exact rz
 refine ca hc (fun _ h=>ok_expr_parser_any h) ?_;intro y2
 refine br ?_ ?_
 exact rz
 refine ca hc (fun _ h=>ok_expr_depth h) ?_;intro y5
 refine br ?_ ?_
 refine ix ?_;intro x8
 exact rz
 refine br ?_ ?_
 refine ix ?_;intro x10
 exact rz
 exact rz
end Go.Proofs.YtonhmholnneaaaaGreat
end
section
namespace Go.Proofs.YtonhmholnneaaaaGreat
set_option linter.unusedVariables false
set_option linter.unusedSimpArgs false
set_option maxRecDepth 100000
set_option maxHeartbeats 4000000
theorem ok_expr_fits {n:Nat} ⦃v0_x:S_api_Node⦄ ⦃r:Bool⦄:m_expr_fits n v0_x=some r→CN n 74 [AV.agg [iA v0_x.f_Op,iA v0_x.f_N,sA v0_x.f_Name,sA v0_x.f_In,iA v0_x.f_At]] []=some (bA r,[]):=by
 intro h;rcases n with _|n;cases h
 rw [m_expr_fits] at h
 refine callN_eq' Tryz.func74 (by rfl) rfl rfl (Nat.le_of_ble_eq_true rfl) ?_
 intro call hc;conv=>lhs;whnf
 revert h
 refine br ?_ ?_
 exact rz
 refine br ?_ ?_
 intro h
 have hf5:flatT Tryz.prog 70=some (fieldsOf Tryz.prog 70):=by kernel_rfl
 simp only [hf5,List.length_map,take_map_len]
 conv=>lhs;whnf
 revert h
 refine br ?_ ?_
 refine br ?_ ?_
 exact rz
 exact rz
 exact rz
 refine br ?_ ?_
 refine ca hc (fun _ h=>ok_scan_Name h) ?_;intro y7
 refine br ?_ ?_
 intro h
 have hf13:flatT Tryz.prog 70=some (fieldsOf Tryz.prog 70):=by kernel_rfl
 simp only [hf13,List.length_map,take_map_len]
 conv=>lhs;whnf
 revert h
 refine br ?_ ?_
 refine ca hc (fun _ h=>ok_scan_Name h) ?_;intro y11
 exact rz
 exact rz
 exact rz
 refine br ?_ ?_
 intro h
 have hf18:flatT Tryz.prog 70=some (fieldsOf Tryz.prog 70):=by kernel_rfl
 simp only [hf18,List.length_map,take_map_len]
 conv=>lhs;whnf
 revert h
 refine br ?_ ?_
 refine ca hc (fun _ h=>ok_scan_Name h) ?_;intro y16
 exact rz
 exact rz
 refine br ?_ ?_
 intro h
 have hf23:flatT Tryz.prog 70=some (fieldsOf Tryz.prog 70):=by kernel_rfl
 simp only [hf23,List.length_map,take_map_len]
 conv=>lhs;whnf
 revert h
 refine br ?_ ?_
 refine ca hc (fun _ h=>ok_scan_Name h) ?_;intro y21
 exact rz
 exact rz
 intro h
 have hf24:flatT Tryz.prog 70=some (fieldsOf Tryz.prog 70):=by kernel_rfl
 simp only [hf24,List.length_map,take_map_len]
 conv=>lhs;whnf
 revert h
 exact rz
theorem ok_expr_Right {n:Nat} ⦃v0_l:(List S_api_Node)⦄ ⦃r:Bool⦄:m_expr_Right n v0_l=some r→CN n 61 [AV.sl 5 (List.map c_api_Node v0_l)] []=some (bA r,[]):=by
 intro h;rcases n with _|n;cases h
 rw [m_expr_Right] at h
 refine callN_eq' Tryz.func61 (by rfl) rfl rfl (Nat.le_of_ble_eq_true rfl) ?_
 intro call hc;conv=>lhs;whnf
 revert h
 refine br ?_ ?_
 exact rz
 refine br ?_ ?_
 exact rz
 refine ca hc (fun _ h=>ok_expr_End h) ?_;intro y3
 refine br ?_ ?_
 exact rz
 intro h;refine bind_some2 h ?_;clear h;intro o14 ho14 h
 refine lq (σ:=Int) (τ:=Unit) (ν:=Bool) 0 (fun s6 a8=>stOf 33 [(0,AV.sl 5 (List.map c_api_Node v0_l)),(20,AV.sl 5 (List.map c_api_Node v0_l)),(21,iA (((v0_l.length:Nat):Int))),(22,iA s6)]) (fun s6 a8=>[]) (fun _ a20=>stOf 33 [(0,AV.sl 5 (List.map c_api_Node v0_l))]) (fun _ a20=>[]) (fun v=>(bA v,[])) (fun k s=>expr_Right_L0 n v0_l k s) (fun s=>rfl) o14 n 0 (fun _=>0) ho14 ?_ ?_
 intro k7 s6 a8 K9 cont10 hK11 hcont12 h hr13
 replace h:expr_Right_L0 n v0_l (k7+1) s6=some o14:=h
 rw [expr_Right_L0] at h
 conv=>lhs;whnf
 revert h
 refine br ?_ ?_
 refine ix ?_;intro x16
 refine ca hc (fun _ h=>ok_expr_fits h) ?_;intro y17
 refine br ?_ ?_
 exact fun h=>cq (hcont12 (IntKind.i64.wrap (s6+1)) (fun _=>0) h)
 intro h;cases sj h
 refine (hK11 _ _).trans ?_
 refine Eq.trans ?_ (Eq.symm (show _=some _ from hr13))
 conv=>lhs;whnf
 exact rq
 intro h;cases sj h
 exact kq (hr13 (fun _=>0))
 refine lrc ?_ ?_
 intro v e;subst e;cases sj h;rfl
 intro t a20 e;subst e
 dsimp only at h
 conv=>lhs;whnf
 revert h
 refine ca hc (fun _ h=>ok_expr_depth h) ?_;intro y21
 exact rz
def OK_expr_decimal (n:Nat):Prop:=∀ ⦃v0_n:Int⦄ ⦃r:(List UInt8)⦄,m_expr_decimal n v0_n=some r→CN n 84 [iA v0_n] []=some (sA r,[])
def IH_expr_decimal (n : Nat) : Prop := OK_expr_decimal n
theorem st_expr_decimal (n:Nat) (ih:IH_expr_decimal n):OK_expr_decimal (n+1):=by
 intro v0_n r h
 rw [m_expr_decimal] at h
 refine callN_eq' Tryz.func84 (by rfl) rfl rfl (Nat.le_of_ble_eq_true rfl) ?_
 intro call hc;conv=>lhs;whnf
 revert h
 refine br ?_ ?_
 exact rz
 refine ca hc (fun _ h=>ih h) ?_;intro y2
 intro h
 refine chk_some2 h ?_;clear h;intro hc4 h
 refine bif_pos hc4 ?_
 try simp only [ls]
 conv=>lhs;whnf
 revert h
 exact rz
theorem all_expr_decimal : ∀ n, IH_expr_decimal n
  | 0 => by unfold IH_expr_decimal OK_expr_decimal; intros; rename_i h; exact absurd h (by intro h; cases h)
  | n + 1 => have ih := all_expr_decimal n
    st_expr_decimal n ih
theorem ok_expr_decimal {n : Nat} : OK_expr_decimal n := (all_expr_decimal n)
def OK_expr_shown (n:Nat):Prop:=∀ ⦃v0_l:(List S_api_Node)⦄ ⦃v1_i:Int⦄ ⦃v2_operand:Bool⦄ ⦃r:((List UInt8)×Int)⦄,m_expr_shown n v0_l v1_i v2_operand=some r→CN n 76 [AV.sl 5 (List.map c_api_Node v0_l),iA v1_i,bA v2_operand] []=some (AV.tup [sA r.1,iA r.2],[])
def IH_expr_shown (n : Nat) : Prop := OK_expr_shown n
theorem st_expr_shown (n:Nat) (ih:IH_expr_shown n):OK_expr_shown (n+1):=by
 intro v0_l v1_i v2_operand r h
 rw [m_expr_shown] at h
 refine callN_eq' Tryz.func76 (by rfl) rfl rfl (Nat.le_of_ble_eq_true rfl) ?_
 intro call hc;conv=>lhs;whnf
 revert h
 refine ix ?_;intro x1
 refine br ?_ ?_
 refine ca hc (fun _ h=>ok_expr_decimal h) ?_;intro y3
 exact rz
 refine br ?_ ?_
 exact rz
 refine br ?_ ?_
 exact rz
 refine br ?_ ?_
 intro h
 refine chk_some2 h ?_;clear h;intro hc8 h
 refine bif_pos hc8 ?_
 try simp only [ls]
 conv=>lhs;whnf
 revert h
 intro h
 refine chk_some2 h ?_;clear h;intro hc9 h
 refine bif_pos hc9 ?_
 try simp only [ls]
 conv=>lhs;whnf
 revert h
 exact rz
 refine br ?_ ?_
 refine ca hc (fun _ h=>ih h) ?_;intro y11
 refine ca hc (fun _ h=>ok_expr_sign h) ?_;intro y13
 intro h
 refine chk_some2 h ?_;clear h;intro hc15 h
 refine bif_pos hc15 ?_
 try simp only [ls]
 conv=>lhs;whnf
 revert h
 exact rz
 refine ca hc (fun _ h=>ih h) ?_;intro y16
 refine ca hc (fun _ h=>ih h) ?_;intro y18
 intro h
 refine chk_some2 h ?_;clear h;intro hc20 h
 refine bif_pos hc20 ?_
 try simp only [ls]
 conv=>lhs;whnf
 revert h
 refine ca hc (fun _ h=>ok_expr_sign h) ?_;intro y21
 intro h
 refine chk_some2 h ?_;clear h;intro hc23 h
 refine bif_pos hc23 ?_
 try simp only [ls]
 conv=>lhs;whnf
 revert h
 intro h
 refine chk_some2 h ?_;clear h;intro hc24 h
 refine bif_pos hc24 ?_
 try simp only [ls]
 conv=>lhs;whnf
 revert h
 intro h
 refine chk_some2 h ?_;clear h;intro hc25 h
 refine bif_pos hc25 ?_
 try simp only [ls]
 conv=>lhs;whnf
 revert h
 refine br ?_ ?_
 intro h
 refine chk_some2 h ?_;clear h;intro hc27 h
 refine bif_pos hc27 ?_
 try simp only [ls]
 conv=>lhs;whnf
 revert h
 intro h
 refine chk_some2 h ?_;clear h;intro hc28 h
 refine bif_pos hc28 ?_
 try simp only [ls]
 conv=>lhs;whnf
 revert h
 exact rz
 exact rz
theorem all_expr_shown : ∀ n, IH_expr_shown n
  | 0 => by unfold IH_expr_shown OK_expr_shown; intros; rename_i h; exact absurd h (by intro h; cases h)
  | n + 1 => have ih := all_expr_shown n
    st_expr_shown n ih
theorem ok_expr_shown {n : Nat} : OK_expr_shown n := (all_expr_shown n)
theorem ok_expr_Show {n:Nat} ⦃v0_l:(List S_api_Node)⦄ ⦃r:(List UInt8)⦄:m_expr_Show n v0_l=some r→CN n 62 [AV.sl 5 (List.map c_api_Node v0_l)] []=some (sA r,[]):=by
 intro h;rcases n with _|n;cases h
 rw [m_expr_Show] at h
 refine callN_eq' Tryz.func62 (by rfl) rfl rfl (Nat.le_of_ble_eq_true rfl) ?_
 intro call hc;conv=>lhs;whnf
 revert h
 refine ca hc (fun _ h=>ok_expr_Right h) ?_;intro y1
 refine br ?_ ?_
 refine ca hc (fun _ h=>ok_expr_shown h) ?_;intro y4
 exact rz
 exact rz
end Go.Proofs.YtonhmholnneaaaaGreat
end
section
namespace Go.Proofs.YtonhmholnneaaaaGreat
set_option linter.unusedVariables false
set_option linter.unusedSimpArgs false
set_option maxRecDepth 100000
set_option maxHeartbeats 4000000
theorem ok_stmt_nests {n:Nat} ⦃v0_kind:Int⦄ ⦃r:Bool⦄:m_stmt_nests n v0_kind=some r→CN n 41 [iA v0_kind] []=some (bA r,[]):=by
 intro h;rcases n with _|n;cases h
 rw [m_stmt_nests] at h
 refine callN_eq' Tryz.func41 (by rfl) rfl rfl (Nat.le_of_ble_eq_true rfl) ?_
 intro call hc;conv=>lhs;whnf
 revert h
 refine br ?_ ?_
 exact rz
 refine br ?_ ?_
 exact rz
 refine br ?_ ?_
 exact rz
 exact rz
def OK_stmt_depth (n:Nat):Prop:=∀ ⦃v0_l:(List S_api_Stmt)⦄ ⦃v1_from:Int⦄ ⦃v2_to:Int⦄ ⦃r:Int⦄,m_stmt_depth n v0_l v1_from v2_to=some r→CN n 21 [AV.sl 9 (List.map c_api_Stmt v0_l),iA v1_from,iA v2_to] []=some (iA r,[])
def OK_stmt_depth_1 (n:Nat):Prop:=∀ ⦃v0_i:Int⦄ ⦃v1_mid:Int⦄ ⦃v2_end:Int⦄ ⦃o0:(List S_api_Stmt)⦄ ⦃o1:Int⦄ ⦃r:(Bool×Int)⦄,m_stmt_depth_1 n v0_i v1_mid v2_end o0 o1=some r→CN n 40 [iA v0_i,iA v1_mid,iA v2_end,AV.ptr 0 0,AV.ptr 1 0] [Ob.var 25 [AV.sl 9 (List.map c_api_Stmt o0)],Ob.var 3 [iA o1]]=some (bA r.1,[Ob.var 25 [AV.sl 9 (List.map c_api_Stmt o0)],Ob.var 3 [iA r.2]])
def OK_stmt_walk_1 (n:Nat):Prop:=∀ ⦃v0_l:(List S_api_Stmt)⦄ ⦃v1_from:Int⦄ ⦃v2_to:Int⦄ ⦃o0:(List S_api_Stmt)⦄ ⦃o1:Int⦄ ⦃r:(Bool×Int)⦄,m_stmt_walk_1 n v0_l v1_from v2_to o0 o1=some r→CN n 22 [AV.sl 9 (List.map c_api_Stmt v0_l),iA v1_from,iA v2_to,AV.func 40 [] [AV.ptr 0 0,AV.ptr 1 0]] [Ob.var 25 [AV.sl 9 (List.map c_api_Stmt o0)],Ob.var 3 [iA o1]]=some (bA r.1,[Ob.var 25 [AV.sl 9 (List.map c_api_Stmt o0)],Ob.var 3 [iA r.2]])
def IH_stmt_depth (n : Nat) : Prop := OK_stmt_depth n ∧ OK_stmt_depth_1 n ∧ OK_stmt_walk_1 n
theorem st_stmt_depth (n:Nat) (ih:IH_stmt_depth n):OK_stmt_depth (n+1):=by
 intro v0_l v1_from v2_to r h
 rw [m_stmt_depth] at h
 refine callN_eq' Tryz.func21 (by rfl) rfl rfl (Nat.le_of_ble_eq_true rfl) ?_
 intro call hc;conv=>lhs;whnf
 revert h
 refine ca hc (fun _ h=>ih.2.2 h) ?_;intro y1
 refine br ?_ ?_
 exact rz
 exact rz
theorem st_stmt_depth_1 (n:Nat) (ih:IH_stmt_depth n):OK_stmt_depth_1 (n+1):=by
 intro v0_i v1_mid v2_end o0 o1 r h
 rw [m_stmt_depth_1] at h
 refine callN_eq' Tryz.func40 (by rfl) rfl rfl (Nat.le_of_ble_eq_true rfl) ?_
 intro call hc;conv=>lhs;whnf
 revert h
 refine ca hc (fun _ h=>ih.1 h) ?_;intro y1
 refine ca hc (fun _ h=>ih.1 h) ?_;intro y3
 refine ix ?_;intro x5
 refine ca hc (fun _ h=>ok_stmt_nests h) ?_;intro y6
 refine br ?_ ?_
 refine br ?_ ?_
 exact rz
 exact rz
 refine br ?_ ?_
 exact rz
 exact rz
theorem st_stmt_walk_1 (n:Nat) (ih:IH_stmt_depth n):OK_stmt_walk_1 (n+1):=by
 intro v0_l v1_from v2_to o0 o1 r h
 rw [m_stmt_walk_1] at h
 refine callN_eq' Tryz.func22 (by rfl) rfl rfl (Nat.le_of_ble_eq_true rfl) ?_
 intro call hc;conv=>lhs;whnf
 revert h
 intro h;refine bind_some2 h ?_;clear h;intro o10 ho10 h
 refine lq (σ:=(Int×Int)) (τ:=Int) (ν:=(Bool×Int)) 0 (fun (s1,s2) a4=>stOf 63 [(0,AV.sl 9 (List.map c_api_Stmt v0_l)),(1,iA s1),(2,iA v2_to),(3,AV.func 40 [] [AV.ptr 0 0,AV.ptr 1 0])]) (fun (s1,s2) a4=>[Ob.var 25 [AV.sl 9 (List.map c_api_Stmt o0)],Ob.var 3 [iA s2]]) (fun x21 a20=>stOf 63 []) (fun x21 a20=>[Ob.var 25 [AV.sl 9 (List.map c_api_Stmt o0)],Ob.var 3 [iA x21]]) (fun v=>(bA v.1,[Ob.var 25 [AV.sl 9 (List.map c_api_Stmt o0)],Ob.var 3 [iA v.2]])) (fun k s=>stmt_walk_1_L0 n (m_stmt_depth_1 n) v0_l v2_to o0 k s.1 s.2) (fun s=>rfl) o10 n (v1_from,o1) (fun _=>0) ho10 ?_ ?_
 intro k3 ss a4 K5 cont6 hK7 hcont8 h hr9
 obtain ⟨s1,s2⟩:=ss
 replace h:stmt_walk_1_L0 n (m_stmt_depth_1 n) v0_l v2_to o0 (k3+1) s1 s2=some o10:=h
 rw [stmt_walk_1_L0] at h
 conv=>lhs;whnf
 revert h
 refine br ?_ ?_
 refine ix ?_;intro x12
 refine br ?_ ?_
 intro h;cases sj h
 refine (hK7 _ _).trans ?_
 refine Eq.trans ?_ (Eq.symm (show _=some _ from hr9))
 conv=>lhs;whnf
 exact rq
 refine br ?_ ?_
 intro h;cases sj h
 refine (hK7 _ _).trans ?_
 refine Eq.trans ?_ (Eq.symm (show _=some _ from hr9))
 conv=>lhs;whnf
 exact rq
 refine br ?_ ?_
 intro h;cases sj h
 refine (hK7 _ _).trans ?_
 refine Eq.trans ?_ (Eq.symm (show _=some _ from hr9))
 conv=>lhs;whnf
 exact rq
 refine br ?_ ?_
 intro h;cases sj h
 refine (hK7 _ _).trans ?_
 refine Eq.trans ?_ (Eq.symm (show _=some _ from hr9))
 conv=>lhs;whnf
 exact rq
 refine ca hc (fun _ h=>ih.2.1 h) ?_;intro y17
 refine br ?_ ?_
 exact fun h=>cq (hcont8 (IntKind.i64.wrap ((IntKind.i64.wrap ((IntKind.i64.wrap (s1+1))+x12.f_Body))+x12.f_Else),y17.2) (fun _=>0) h)
 intro h;cases sj h
 refine (hK7 _ _).trans ?_
 refine Eq.trans ?_ (Eq.symm (show _=some _ from hr9))
 conv=>lhs;whnf
 exact rq
 intro h;cases sj h
 exact kq (hr9 (fun _=>0))
 refine lrc ?_ ?_
 intro v e;subst e;cases sj h;rfl
 intro x21 a20 e;subst e
 dsimp only at h
 conv=>lhs;whnf
 revert h
 exact rz
theorem all_stmt_depth : ∀ n, IH_stmt_depth n
  | 0 => ⟨by unfold OK_stmt_depth; intros; rename_i h; exact absurd h (by intro h; cases h), by unfold OK_stmt_depth_1; intros; rename_i h; exact absurd h (by intro h; cases h), by unfold OK_stmt_walk_1; intros; rename_i h; exact absurd h (by intro h; cases h)⟩
  | n + 1 => have ih := all_stmt_depth n
    ⟨st_stmt_depth n ih, st_stmt_depth_1 n ih, st_stmt_walk_1 n ih⟩
theorem ok_stmt_depth {n : Nat} : OK_stmt_depth n := (all_stmt_depth n).1
theorem ok_stmt_Depth {n:Nat} ⦃v0_l:(List S_api_Stmt)⦄ ⦃r:Int⦄:m_stmt_Depth n v0_l=some r→CN n 10 [AV.sl 9 (List.map c_api_Stmt v0_l)] []=some (iA r,[]):=by
 intro h;rcases n with _|n;cases h
 rw [m_stmt_Depth] at h
 refine callN_eq' Tryz.func10 (by rfl) rfl rfl (Nat.le_of_ble_eq_true rfl) ?_
 intro call hc;conv=>lhs;whnf
 revert h
 refine cr hc (fun _ h=>ok_stmt_depth h) ?_;intro y1
 exact rz
theorem ok_stmt_kinds {n:Nat} ⦃r:(List S_stmt_kind)⦄:m_stmt_kinds n=some r→CN n 14 [] []=some (AV.sl 4 (List.map c_stmt_kind r),[]):=by
 intro h;rcases n with _|n;cases h
 rw [m_stmt_kinds] at h
 refine callN_eq' Tryz.func14 (by rfl) rfl rfl (Nat.le_of_ble_eq_true rfl) ?_
 intro call hc;conv=>lhs;whnf
 revert h
 exact rz
theorem ok_stmt_parser_is {n:Nat} ⦃v1_kind:Int⦄ ⦃v2_s:(List UInt8)⦄ ⦃p_l:(List S_api_Token)⦄ ⦃p_i:Int⦄ ⦃p_e:Int⦄ ⦃p_at:Int⦄ ⦃o1_m:(List ((List UInt8)×Int))⦄ ⦃r:Bool⦄:m_stmt_parser_is n v1_kind v2_s p_l p_i p_e p_at o1_m=some r→CN n 27 [AV.ptr 0 0,iA v1_kind,sA v2_s] [Ob.var 44 [AV.sl 4 (List.map c_api_Token p_l),iA p_i,AV.mapp 1,iA p_e,iA p_at],Ob.mp none false (List.map c_mp_map_string_int o1_m)]=some (bA r,[Ob.var 44 [AV.sl 4 (List.map c_api_Token p_l),iA p_i,AV.mapp 1,iA p_e,iA p_at],Ob.mp none false (List.map c_mp_map_string_int o1_m)]):=by
 intro h;rcases n with _|n;cases h
 rw [m_stmt_parser_is] at h
 refine callN_eq' Tryz.func27 (by rfl) rfl rfl (Nat.le_of_ble_eq_true rfl) ?_
 intro call hc;conv=>lhs;whnf
 revert h
 refine br ?_ ?_
 refine ix ?_;intro x2
 refine br ?_ ?_
 refine ix ?_;intro x4
 intro h;cases sj h
 try simp only [ls]
 exact fq (y:=some (bA ((x4.f_Text==v2_s)),[Ob.var 44 [AV.sl 4 (List.map c_api_Token p_l),iA p_i,AV.mapp 1,iA p_e,iA p_at],Ob.mp none false (List.map c_mp_map_string_int o1_m)]))
 intro h;obtain rfl:=sj h
 try simp only [ls]
 exact fq (y:=some (bA false,[Ob.var 44 [AV.sl 4 (List.map c_api_Token p_l),iA p_i,AV.mapp 1,iA p_e,iA p_at],Ob.mp none false (List.map c_mp_map_string_int o1_m)]))
 intro h;obtain rfl:=sj h
 try simp only [ls]
 exact fq (y:=some (bA false,[Ob.var 44 [AV.sl 4 (List.map c_api_Token p_l),iA p_i,AV.mapp 1,iA p_e,iA p_at],Ob.mp none false (List.map c_mp_map_string_int o1_m)]))
theorem ok_stmt_of {n:Nat} ⦃v0_n:Int⦄ ⦃r:(S_stmt_kind×Bool)⦄:m_stmt_of n v0_n=some r→CN n 34 [iA v0_n] []=some (AV.tup [AV.agg [sA r.1.f_word,sA r.1.f_form,bA r.1.f_body,bA r.1.f_more],bA r.2],[]):=by
 intro h;rcases n with _|n;cases h
 rw [m_stmt_of] at h
 refine callN_eq' Tryz.func34 (by rfl) rfl rfl (Nat.le_of_ble_eq_true rfl) ?_
 intro call hc;conv=>lhs;whnf
 revert h
 refine ca hc (fun _ h=>ok_stmt_kinds h) ?_;intro y1
 refine br ?_ ?_
 exact rz
 refine br ?_ ?_
 exact rz
 refine ix ?_;intro x5
 exact rz
theorem ok_stmt_of_1 {n:Nat} ⦃r:S_stmt_kind⦄:m_stmt_of_1 n=some r→CN n 34 [iA (0)] []=some (AV.tup [AV.agg [sA r.f_word,sA r.f_form,bA r.f_body,bA r.f_more],bA false],[]):=by
 intro h;rcases n with _|n;cases h
 rw [m_stmt_of_1] at h
 refine callN_eq' Tryz.func34 (by rfl) rfl rfl (Nat.le_of_ble_eq_true rfl) ?_
 intro call hc;conv=>lhs;whnf
 revert h
 refine ca hc (fun _ h=>ok_stmt_kinds h) ?_;intro y1
 exact rz
theorem ok_stmt_parser_place {n:Nat} ⦃v1_i:Int⦄ ⦃p_l:(List S_api_Token)⦄ ⦃p_i:Int⦄ ⦃p_e:Int⦄ ⦃p_at:Int⦄ ⦃o1_m:(List ((List UInt8)×Int))⦄ ⦃r:Int⦄:m_stmt_parser_place n v1_i p_l p_i p_e p_at o1_m=some r→CN n 16 [AV.ptr 0 0,iA v1_i] [Ob.var 44 [AV.sl 4 (List.map c_api_Token p_l),iA p_i,AV.mapp 1,iA p_e,iA p_at],Ob.mp none false (List.map c_mp_map_string_int o1_m)]=some (iA r,[Ob.var 44 [AV.sl 4 (List.map c_api_Token p_l),iA p_i,AV.mapp 1,iA p_e,iA p_at],Ob.mp none false (List.map c_mp_map_string_int o1_m)]):=by
 intro h;rcases n with _|n;cases h
 rw [m_stmt_parser_place] at h
 refine callN_eq' Tryz.func16 (by rfl) rfl rfl (Nat.le_of_ble_eq_true rfl) ?_
 intro call hc;conv=>lhs;whnf
 revert h
 refine br ?_ ?_
 refine ix ?_;intro x2
 intro h;cases sj h
 try simp only [ls]
 exact fq (y:=some (iA x2.f_At,[Ob.var 44 [AV.sl 4 (List.map c_api_Token p_l),iA p_i,AV.mapp 1,iA p_e,iA p_at],Ob.mp none false (List.map c_mp_map_string_int o1_m)]))
 refine br ?_ ?_
 refine ix ?_;intro x4
 refine ix ?_;intro x5
 intro h;cases sj h
 try simp only [ls]
 exact fq (y:=some (iA (IntKind.i64.wrap (x4.f_At+((x5.f_Text.length:Nat):Int))),[Ob.var 44 [AV.sl 4 (List.map c_api_Token p_l),iA p_i,AV.mapp 1,iA p_e,iA p_at],Ob.mp none false (List.map c_mp_map_string_int o1_m)]))
 intro h;cases sj h
 try simp only [ls]
 exact fq (y:=some (iA (0),[Ob.var 44 [AV.sl 4 (List.map c_api_Token p_l),iA p_i,AV.mapp 1,iA p_e,iA p_at],Ob.mp none false (List.map c_mp_map_string_int o1_m)]))
theorem ok_stmt_parser_fail {n:Nat} ⦃p_l:(List S_api_Token)⦄ ⦃p_i:Int⦄ ⦃p_e:Int⦄ ⦃p_at:Int⦄ ⦃o1_m:(List ((List UInt8)×Int))⦄ ⦃r:(Int×Int)⦄:m_stmt_parser_fail n p_l p_i p_e p_at o1_m=some r→CN n 48 [AV.ptr 0 0] [Ob.var 44 [AV.sl 4 (List.map c_api_Token p_l),iA p_i,AV.mapp 1,iA p_e,iA p_at],Ob.mp none false (List.map c_mp_map_string_int o1_m)]=some (AV.tup [],[Ob.var 44 [AV.sl 4 (List.map c_api_Token p_l),iA p_i,AV.mapp 1,iA r.1,iA r.2],Ob.mp none false (List.map c_mp_map_string_int o1_m)]):=by
 intro h;rcases n with _|n;cases h
 rw [m_stmt_parser_fail] at h
 refine callN_eq' Tryz.func48 (by rfl) rfl rfl (Nat.le_of_ble_eq_true rfl) ?_
 intro call hc;conv=>lhs;whnf
 revert h
 refine br ?_ ?_
 intro h;cases sj h
 try simp only [ls]
 exact fq (y:=some (AV.tup [],[Ob.var 44 [AV.sl 4 (List.map c_api_Token p_l),iA p_i,AV.mapp 1,iA p_e,iA p_at],Ob.mp none false (List.map c_mp_map_string_int o1_m)]))
 refine ca hc (fun _ h=>ok_stmt_parser_place h) ?_;intro y2
 refine br ?_ ?_
 intro h;cases sj h
 try simp only [ls]
 exact fq (y:=some (AV.tup [],[Ob.var 44 [AV.sl 4 (List.map c_api_Token p_l),iA p_i,AV.mapp 1,iA (6),iA y2],Ob.mp none false (List.map c_mp_map_string_int o1_m)]))
 intro h;cases sj h
 try simp only [ls]
 exact fq (y:=some (AV.tup [],[Ob.var 44 [AV.sl 4 (List.map c_api_Token p_l),iA p_i,AV.mapp 1,iA (5),iA y2],Ob.mp none false (List.map c_mp_map_string_int o1_m)]))
theorem ok_stmt_parser_sign {n:Nat} ⦃v1_s:(List UInt8)⦄ ⦃p_l:(List S_api_Token)⦄ ⦃p_i:Int⦄ ⦃p_e:Int⦄ ⦃p_at:Int⦄ ⦃o1_m:(List ((List UInt8)×Int))⦄ ⦃r:(Int×Int×Int)⦄:m_stmt_parser_sign n v1_s p_l p_i p_e p_at o1_m=some r→CN n 50 [AV.ptr 0 0,sA v1_s] [Ob.var 44 [AV.sl 4 (List.map c_api_Token p_l),iA p_i,AV.mapp 1,iA p_e,iA p_at],Ob.mp none false (List.map c_mp_map_string_int o1_m)]=some (AV.tup [],[Ob.var 44 [AV.sl 4 (List.map c_api_Token p_l),iA r.1,AV.mapp 1,iA r.2.1,iA r.2.2],Ob.mp none false (List.map c_mp_map_string_int o1_m)]):=by
 intro h;rcases n with _|n;cases h
 rw [m_stmt_parser_sign] at h
 refine callN_eq' Tryz.func50 (by rfl) rfl rfl (Nat.le_of_ble_eq_true rfl) ?_
 intro call hc;conv=>lhs;whnf
 revert h
 refine br ?_ ?_
 intro h;cases sj h
 try simp only [ls]
 exact fq (y:=some (AV.tup [],[Ob.var 44 [AV.sl 4 (List.map c_api_Token p_l),iA p_i,AV.mapp 1,iA p_e,iA p_at],Ob.mp none false (List.map c_mp_map_string_int o1_m)]))
 refine ca hc (fun _ h=>ok_stmt_parser_is h) ?_;intro y2
 refine br ?_ ?_
 intro h;cases sj h
 try simp only [ls]
 exact fq (y:=some (AV.tup [],[Ob.var 44 [AV.sl 4 (List.map c_api_Token p_l),iA (IntKind.i64.wrap (p_i+1)),AV.mapp 1,iA p_e,iA p_at],Ob.mp none false (List.map c_mp_map_string_int o1_m)]))
 refine ca hc (fun _ h=>ok_stmt_parser_fail h) ?_;intro y5
 intro h;cases sj h
 try simp only [ls]
 exact fq (y:=some (AV.tup [],[Ob.var 44 [AV.sl 4 (List.map c_api_Token p_l),iA p_i,AV.mapp 1,iA y5.1,iA y5.2],Ob.mp none false (List.map c_mp_map_string_int o1_m)]))
theorem ok_stmt_parser_name {n:Nat} ⦃p_l:(List S_api_Token)⦄ ⦃p_i:Int⦄ ⦃p_e:Int⦄ ⦃p_at:Int⦄ ⦃o1_m:(List ((List UInt8)×Int))⦄ ⦃r:((List UInt8)×Int×Int×Int)⦄:m_stmt_parser_name n p_l p_i p_e p_at o1_m=some r→CN n 64 [AV.ptr 0 0] [Ob.var 44 [AV.sl 4 (List.map c_api_Token p_l),iA p_i,AV.mapp 1,iA p_e,iA p_at],Ob.mp none false (List.map c_mp_map_string_int o1_m)]=some (sA r.1,[Ob.var 44 [AV.sl 4 (List.map c_api_Token p_l),iA r.2.1,AV.mapp 1,iA r.2.2.1,iA r.2.2.2],Ob.mp none false (List.map c_mp_map_string_int o1_m)]):=by
 intro h;rcases n with _|n;cases h
 rw [m_stmt_parser_name] at h
 refine callN_eq' Tryz.func64 (by rfl) rfl rfl (Nat.le_of_ble_eq_true rfl) ?_
 intro call hc;conv=>lhs;whnf
 revert h
 refine br ?_ ?_
 intro h;cases sj h
 try simp only [ls]
 exact fq (y:=some (sA (([]:List UInt8)),[Ob.var 44 [AV.sl 4 (List.map c_api_Token p_l),iA p_i,AV.mapp 1,iA p_e,iA p_at],Ob.mp none false (List.map c_mp_map_string_int o1_m)]))
 refine br ?_ ?_
 refine ca hc (fun _ h=>ok_stmt_parser_fail h) ?_;intro y3
 intro h;cases sj h
 try simp only [ls]
 exact fq (y:=some (sA (([]:List UInt8)),[Ob.var 44 [AV.sl 4 (List.map c_api_Token p_l),iA p_i,AV.mapp 1,iA y3.1,iA y3.2],Ob.mp none false (List.map c_mp_map_string_int o1_m)]))
 refine ix ?_;intro x5
 refine br ?_ ?_
 refine ca hc (fun _ h=>ok_stmt_parser_fail h) ?_;intro y7
 intro h;cases sj h
 try simp only [ls]
 exact fq (y:=some (sA (([]:List UInt8)),[Ob.var 44 [AV.sl 4 (List.map c_api_Token p_l),iA p_i,AV.mapp 1,iA y7.1,iA y7.2],Ob.mp none false (List.map c_mp_map_string_int o1_m)]))
 refine ix ?_;intro x9
 refine ca hc (fun _ h=>ok_scan_Name h) ?_;intro y10
 refine br ?_ ?_
 refine ix ?_;intro x13
 intro h;cases sj h
 try simp only [ls]
 exact fq (y:=some (sA x13.f_Text,[Ob.var 44 [AV.sl 4 (List.map c_api_Token p_l),iA (IntKind.i64.wrap (p_i+1)),AV.mapp 1,iA p_e,iA p_at],Ob.mp none false (List.map c_mp_map_string_int o1_m)]))
 refine ca hc (fun _ h=>ok_stmt_parser_fail h) ?_;intro y14
 intro h;cases sj h
 try simp only [ls]
 exact fq (y:=some (sA (([]:List UInt8)),[Ob.var 44 [AV.sl 4 (List.map c_api_Token p_l),iA p_i,AV.mapp 1,iA y14.1,iA y14.2],Ob.mp none false (List.map c_mp_map_string_int o1_m)]))
theorem ok_stmt_parser_parts_1 {n:Nat} ⦃o1_l:(List S_api_Token)⦄ ⦃o1_i:Int⦄ ⦃o1_e:Int⦄ ⦃o1_at:Int⦄ ⦃o2_m:(List ((List UInt8)×Int))⦄ ⦃o4_Kind:Int⦄ ⦃o4_Reg:(List UInt8)⦄ ⦃o4_Loc:(List UInt8)⦄ ⦃o4_E:(List S_api_Node)⦄ ⦃o4_F:(List S_api_Node)⦄ ⦃o4_Ne:Bool⦄ ⦃o4_Body:Int⦄ ⦃o4_Else:Int⦄ ⦃o4_At:Int⦄ ⦃r:(Int×Int×Int×(List UInt8))⦄:m_stmt_parser_parts_1 n o1_l o1_i o1_e o1_at o2_m o4_Kind o4_Reg o4_Loc o4_E o4_F o4_Ne o4_Body o4_Else o4_At=some r→CN n 63 [AV.ptr 0 0,AV.ptr 3 0] [Ob.var 41 [AV.ptr 1 0],Ob.var 44 [AV.sl 4 (List.map c_api_Token o1_l),iA o1_i,AV.mapp 2,iA o1_e,iA o1_at],Ob.mp none false (List.map c_mp_map_string_int o2_m),Ob.var 84 [AV.ptr 4 0],Ob.var 33 [iA o4_Kind,sA o4_Reg,sA o4_Loc,AV.sl 5 (List.map c_api_Node o4_E),AV.sl 5 (List.map c_api_Node o4_F),bA o4_Ne,iA o4_Body,iA o4_Else,iA o4_At]]=some (AV.tup [],[Ob.var 41 [AV.ptr 1 0],Ob.var 44 [AV.sl 4 (List.map c_api_Token o1_l),iA r.1,AV.mapp 2,iA r.2.1,iA r.2.2.1],Ob.mp none false (List.map c_mp_map_string_int o2_m),Ob.var 84 [AV.ptr 4 0],Ob.var 33 [iA o4_Kind,sA r.2.2.2,sA o4_Loc,AV.sl 5 (List.map c_api_Node o4_E),AV.sl 5 (List.map c_api_Node o4_F),bA o4_Ne,iA o4_Body,iA o4_Else,iA o4_At]]):=by
 intro h;rcases n with _|n;cases h
 rw [m_stmt_parser_parts_1] at h
 refine callN_eq' Tryz.func63 (by rfl) rfl rfl (Nat.le_of_ble_eq_true rfl) ?_
 intro call hc;conv=>lhs;whnf
 revert h
 refine ca hc (fun _ h=>ok_stmt_parser_name h) ?_;intro y1
 intro h;cases sj h
 try simp only [ls]
 exact fq (y:=some (AV.tup [],[Ob.var 41 [AV.ptr 1 0],Ob.var 44 [AV.sl 4 (List.map c_api_Token o1_l),iA y1.2.1,AV.mapp 2,iA y1.2.2.1,iA y1.2.2.2],Ob.mp none false (List.map c_mp_map_string_int o2_m),Ob.var 84 [AV.ptr 4 0],Ob.var 33 [iA o4_Kind,sA y1.1,sA o4_Loc,AV.sl 5 (List.map c_api_Node o4_E),AV.sl 5 (List.map c_api_Node o4_F),bA o4_Ne,iA o4_Body,iA o4_Else,iA o4_At]]))
theorem ok_stmt_parser_parts_2 {n:Nat} ⦃o1_l:(List S_api_Token)⦄ ⦃o1_i:Int⦄ ⦃o1_e:Int⦄ ⦃o1_at:Int⦄ ⦃o2_m:(List ((List UInt8)×Int))⦄ ⦃o4_Kind:Int⦄ ⦃o4_Reg:(List UInt8)⦄ ⦃o4_Loc:(List UInt8)⦄ ⦃o4_E:(List S_api_Node)⦄ ⦃o4_F:(List S_api_Node)⦄ ⦃o4_Ne:Bool⦄ ⦃o4_Body:Int⦄ ⦃o4_Else:Int⦄ ⦃o4_At:Int⦄ ⦃r:(Int×Int×Int×(List UInt8))⦄:m_stmt_parser_parts_2 n o1_l o1_i o1_e o1_at o2_m o4_Kind o4_Reg o4_Loc o4_E o4_F o4_Ne o4_Body o4_Else o4_At=some r→CN n 65 [AV.ptr 0 0,AV.ptr 3 0] [Ob.var 41 [AV.ptr 1 0],Ob.var 44 [AV.sl 4 (List.map c_api_Token o1_l),iA o1_i,AV.mapp 2,iA o1_e,iA o1_at],Ob.mp none false (List.map c_mp_map_string_int o2_m),Ob.var 84 [AV.ptr 4 0],Ob.var 33 [iA o4_Kind,sA o4_Reg,sA o4_Loc,AV.sl 5 (List.map c_api_Node o4_E),AV.sl 5 (List.map c_api_Node o4_F),bA o4_Ne,iA o4_Body,iA o4_Else,iA o4_At]]=some (AV.tup [],[Ob.var 41 [AV.ptr 1 0],Ob.var 44 [AV.sl 4 (List.map c_api_Token o1_l),iA r.1,AV.mapp 2,iA r.2.1,iA r.2.2.1],Ob.mp none false (List.map c_mp_map_string_int o2_m),Ob.var 84 [AV.ptr 4 0],Ob.var 33 [iA o4_Kind,sA o4_Reg,sA r.2.2.2,AV.sl 5 (List.map c_api_Node o4_E),AV.sl 5 (List.map c_api_Node o4_F),bA o4_Ne,iA o4_Body,iA o4_Else,iA o4_At]]):=by
 intro h;rcases n with _|n;cases h
 rw [m_stmt_parser_parts_2] at h
 refine callN_eq' Tryz.func65 (by rfl) rfl rfl (Nat.le_of_ble_eq_true rfl) ?_
 intro call hc;conv=>lhs;whnf
 revert h
 refine ca hc (fun _ h=>ok_stmt_parser_name h) ?_;intro y1
 intro h;cases sj h
 try simp only [ls]
 exact fq (y:=some (AV.tup [],[Ob.var 41 [AV.ptr 1 0],Ob.var 44 [AV.sl 4 (List.map c_api_Token o1_l),iA y1.2.1,AV.mapp 2,iA y1.2.2.1,iA y1.2.2.2],Ob.mp none false (List.map c_mp_map_string_int o2_m),Ob.var 84 [AV.ptr 4 0],Ob.var 33 [iA o4_Kind,sA o4_Reg,sA y1.1,AV.sl 5 (List.map c_api_Node o4_E),AV.sl 5 (List.map c_api_Node o4_F),bA o4_Ne,iA o4_Body,iA o4_Else,iA o4_At]]))
theorem ok_stmt_plain {n:Nat} ⦃v0_l:(List S_api_Node)⦄ ⦃r:Bool⦄:m_stmt_plain n v0_l=some r→CN n 39 [AV.sl 5 (List.map c_api_Node v0_l)] []=some (bA r,[]):=by
 intro h;rcases n with _|n;cases h
 rw [m_stmt_plain] at h
 refine callN_eq' Tryz.func39 (by rfl) rfl rfl (Nat.le_of_ble_eq_true rfl) ?_
 intro call hc;conv=>lhs;whnf
 revert h
 refine ca hc (fun _ h=>ok_expr_Names h) ?_;intro y1
 intro h;refine bind_some2 h ?_;clear h;intro o11 ho11 h
 refine lq (σ:=Int) (τ:=Unit) (ν:=Bool) 0 (fun s3 a5=>stOf 18 [(0,AV.sl 5 (List.map c_api_Node v0_l)),(6,AV.sl 5 (List.map c_api_Node y1)),(7,iA (((y1.length:Nat):Int))),(8,iA s3)]) (fun s3 a5=>[]) (fun _ a15=>stOf 18 [(0,AV.sl 5 (List.map c_api_Node v0_l))]) (fun _ a15=>[]) (fun v=>(bA v,[])) (fun k s=>stmt_plain_L0 n y1 k s) (fun s=>rfl) o11 n 0 (fun _=>0) ho11 ?_ ?_
 intro k4 s3 a5 K6 cont7 hK8 hcont9 h hr10
 replace h:stmt_plain_L0 n y1 (k4+1) s3=some o11:=h
 rw [stmt_plain_L0] at h
 conv=>lhs;whnf
 revert h
 refine br ?_ ?_
 refine ix ?_;intro x13
 refine br ?_ ?_
 intro h;cases sj h
 refine (hK8 _ _).trans ?_
 refine Eq.trans ?_ (Eq.symm (show _=some _ from hr10))
 conv=>lhs;whnf
 exact rq
 exact fun h=>cq (hcont9 (IntKind.i64.wrap (s3+1)) (fun _=>0) h)
 intro h;cases sj h
 exact kq (hr10 (fun _=>0))
 refine lrc ?_ ?_
 intro v e;subst e;cases sj h;rfl
 intro t a15 e;subst e
 dsimp only at h
 conv=>lhs;whnf
 revert h
 refine ca hc (fun _ h=>ok_expr_Right h) ?_;intro y16
 exact rz
theorem ok_stmt_parser_expr {n:Nat} ⦃p_l:(List S_api_Token)⦄ ⦃p_i:Int⦄ ⦃p_e:Int⦄ ⦃p_at:Int⦄ ⦃o1_m:(List ((List UInt8)×Int))⦄ ⦃r:((List S_api_Node)×Int×Int×Int)⦄:m_stmt_parser_expr n p_l p_i p_e p_at o1_m=some r→CN n 67 [AV.ptr 0 0] [Ob.var 44 [AV.sl 4 (List.map c_api_Token p_l),iA p_i,AV.mapp 1,iA p_e,iA p_at],Ob.mp none false (List.map c_mp_map_string_int o1_m)]=some (AV.sl 5 (List.map c_api_Node r.1),[Ob.var 44 [AV.sl 4 (List.map c_api_Token p_l),iA r.2.1,AV.mapp 1,iA r.2.2.1,iA r.2.2.2],Ob.mp none false (List.map c_mp_map_string_int o1_m)]):=by
 intro h;rcases n with _|n;cases h
 rw [m_stmt_parser_expr] at h
 refine callN_eq' Tryz.func67 (by rfl) rfl rfl (Nat.le_of_ble_eq_true rfl) ?_
 intro call hc;conv=>lhs;whnf
 revert h
 refine br ?_ ?_
 intro h;cases sj h
 try simp only [ls]
 exact fq (y:=some (AV.sl 5 [],[Ob.var 44 [AV.sl 4 (List.map c_api_Token p_l),iA p_i,AV.mapp 1,iA p_e,iA p_at],Ob.mp none false (List.map c_mp_map_string_int o1_m)]))
 refine ca hc (fun _ h=>ok_expr_Parse h) ?_;intro y2
 refine br ?_ ?_
 intro h;cases sj h
 try simp only [ls]
 exact fq (y:=some (AV.sl 5 [],[Ob.var 44 [AV.sl 4 (List.map c_api_Token p_l),iA p_i,AV.mapp 1,iA y2.2.2.1,iA y2.2.2.2],Ob.mp none false (List.map c_mp_map_string_int o1_m)]))
 refine ca hc (fun _ h=>ok_stmt_plain h) ?_;intro y5
 refine br ?_ ?_
 intro h;cases sj h
 try simp only [ls]
 exact fq (y:=some (AV.sl 5 (List.map c_api_Node y2.1),[Ob.var 44 [AV.sl 4 (List.map c_api_Token p_l),iA y2.2.1,AV.mapp 1,iA p_e,iA p_at],Ob.mp none false (List.map c_mp_map_string_int o1_m)]))
 refine ca hc (fun _ h=>ok_stmt_parser_fail h) ?_;intro y8
 intro h;cases sj h
 try simp only [ls]
 exact fq (y:=some (AV.sl 5 [],[Ob.var 44 [AV.sl 4 (List.map c_api_Token p_l),iA p_i,AV.mapp 1,iA y8.1,iA y8.2],Ob.mp none false (List.map c_mp_map_string_int o1_m)]))
theorem ok_stmt_parser_parts_3 {n:Nat} ⦃o1_l:(List S_api_Token)⦄ ⦃o1_i:Int⦄ ⦃o1_e:Int⦄ ⦃o1_at:Int⦄ ⦃o2_m:(List ((List UInt8)×Int))⦄ ⦃o4_Kind:Int⦄ ⦃o4_Reg:(List UInt8)⦄ ⦃o4_Loc:(List UInt8)⦄ ⦃o4_E:(List S_api_Node)⦄ ⦃o4_F:(List S_api_Node)⦄ ⦃o4_Ne:Bool⦄ ⦃o4_Body:Int⦄ ⦃o4_Else:Int⦄ ⦃o4_At:Int⦄ ⦃r:(Int×Int×Int×(List S_api_Node))⦄:m_stmt_parser_parts_3 n o1_l o1_i o1_e o1_at o2_m o4_Kind o4_Reg o4_Loc o4_E o4_F o4_Ne o4_Body o4_Else o4_At=some r→CN n 66 [AV.ptr 0 0,AV.ptr 3 0] [Ob.var 41 [AV.ptr 1 0],Ob.var 44 [AV.sl 4 (List.map c_api_Token o1_l),iA o1_i,AV.mapp 2,iA o1_e,iA o1_at],Ob.mp none false (List.map c_mp_map_string_int o2_m),Ob.var 84 [AV.ptr 4 0],Ob.var 33 [iA o4_Kind,sA o4_Reg,sA o4_Loc,AV.sl 5 (List.map c_api_Node o4_E),AV.sl 5 (List.map c_api_Node o4_F),bA o4_Ne,iA o4_Body,iA o4_Else,iA o4_At]]=some (AV.tup [],[Ob.var 41 [AV.ptr 1 0],Ob.var 44 [AV.sl 4 (List.map c_api_Token o1_l),iA r.1,AV.mapp 2,iA r.2.1,iA r.2.2.1],Ob.mp none false (List.map c_mp_map_string_int o2_m),Ob.var 84 [AV.ptr 4 0],Ob.var 33 [iA o4_Kind,sA o4_Reg,sA o4_Loc,AV.sl 5 (List.map c_api_Node r.2.2.2),AV.sl 5 (List.map c_api_Node o4_F),bA o4_Ne,iA o4_Body,iA o4_Else,iA o4_At]]):=by
 intro h;rcases n with _|n;cases h
 rw [m_stmt_parser_parts_3] at h
 refine callN_eq' Tryz.func66 (by rfl) rfl rfl (Nat.le_of_ble_eq_true rfl) ?_
 intro call hc;conv=>lhs;whnf
 revert h
 refine ca hc (fun _ h=>ok_stmt_parser_expr h) ?_;intro y1
 intro h;cases sj h
 try simp only [ls]
 exact fq (y:=some (AV.tup [],[Ob.var 41 [AV.ptr 1 0],Ob.var 44 [AV.sl 4 (List.map c_api_Token o1_l),iA y1.2.1,AV.mapp 2,iA y1.2.2.1,iA y1.2.2.2],Ob.mp none false (List.map c_mp_map_string_int o2_m),Ob.var 84 [AV.ptr 4 0],Ob.var 33 [iA o4_Kind,sA o4_Reg,sA o4_Loc,AV.sl 5 (List.map c_api_Node y1.1),AV.sl 5 (List.map c_api_Node o4_F),bA o4_Ne,iA o4_Body,iA o4_Else,iA o4_At]]))
theorem ok_stmt_parser_parts_4 {n:Nat} ⦃o1_l:(List S_api_Token)⦄ ⦃o1_i:Int⦄ ⦃o1_e:Int⦄ ⦃o1_at:Int⦄ ⦃o2_m:(List ((List UInt8)×Int))⦄ ⦃o4_Kind:Int⦄ ⦃o4_Reg:(List UInt8)⦄ ⦃o4_Loc:(List UInt8)⦄ ⦃o4_E:(List S_api_Node)⦄ ⦃o4_F:(List S_api_Node)⦄ ⦃o4_Ne:Bool⦄ ⦃o4_Body:Int⦄ ⦃o4_Else:Int⦄ ⦃o4_At:Int⦄ ⦃r:(Int×Int×Int×(List S_api_Node))⦄:m_stmt_parser_parts_4 n o1_l o1_i o1_e o1_at o2_m o4_Kind o4_Reg o4_Loc o4_E o4_F o4_Ne o4_Body o4_Else o4_At=some r→CN n 68 [AV.ptr 0 0,AV.ptr 3 0] [Ob.var 41 [AV.ptr 1 0],Ob.var 44 [AV.sl 4 (List.map c_api_Token o1_l),iA o1_i,AV.mapp 2,iA o1_e,iA o1_at],Ob.mp none false (List.map c_mp_map_string_int o2_m),Ob.var 84 [AV.ptr 4 0],Ob.var 33 [iA o4_Kind,sA o4_Reg,sA o4_Loc,AV.sl 5 (List.map c_api_Node o4_E),AV.sl 5 (List.map c_api_Node o4_F),bA o4_Ne,iA o4_Body,iA o4_Else,iA o4_At]]=some (AV.tup [],[Ob.var 41 [AV.ptr 1 0],Ob.var 44 [AV.sl 4 (List.map c_api_Token o1_l),iA r.1,AV.mapp 2,iA r.2.1,iA r.2.2.1],Ob.mp none false (List.map c_mp_map_string_int o2_m),Ob.var 84 [AV.ptr 4 0],Ob.var 33 [iA o4_Kind,sA o4_Reg,sA o4_Loc,AV.sl 5 (List.map c_api_Node o4_E),AV.sl 5 (List.map c_api_Node r.2.2.2),bA o4_Ne,iA o4_Body,iA o4_Else,iA o4_At]]):=by
 intro h;rcases n with _|n;cases h
 rw [m_stmt_parser_parts_4] at h
 refine callN_eq' Tryz.func68 (by rfl) rfl rfl (Nat.le_of_ble_eq_true rfl) ?_
 intro call hc;conv=>lhs;whnf
 revert h
 refine ca hc (fun _ h=>ok_stmt_parser_expr h) ?_;intro y1
 intro h;cases sj h
 try simp only [ls]
 exact fq (y:=some (AV.tup [],[Ob.var 41 [AV.ptr 1 0],Ob.var 44 [AV.sl 4 (List.map c_api_Token o1_l),iA y1.2.1,AV.mapp 2,iA y1.2.2.1,iA y1.2.2.2],Ob.mp none false (List.map c_mp_map_string_int o2_m),Ob.var 84 [AV.ptr 4 0],Ob.var 33 [iA o4_Kind,sA o4_Reg,sA o4_Loc,AV.sl 5 (List.map c_api_Node o4_E),AV.sl 5 (List.map c_api_Node y1.1),bA o4_Ne,iA o4_Body,iA o4_Else,iA o4_At]]))
theorem ok_stmt_parser_parts_5 {n:Nat} ⦃o1_l:(List S_api_Token)⦄ ⦃o1_i:Int⦄ ⦃o1_e:Int⦄ ⦃o1_at:Int⦄ ⦃o2_m:(List ((List UInt8)×Int))⦄ ⦃o4_Kind:Int⦄ ⦃o4_Reg:(List UInt8)⦄ ⦃o4_Loc:(List UInt8)⦄ ⦃o4_E:(List S_api_Node)⦄ ⦃o4_F:(List S_api_Node)⦄ ⦃o4_Ne:Bool⦄ ⦃o4_Body:Int⦄ ⦃o4_Else:Int⦄ ⦃o4_At:Int⦄ ⦃r:(Int×Int×Int×Bool)⦄:m_stmt_parser_parts_5 n o1_l o1_i o1_e o1_at o2_m o4_Kind o4_Reg o4_Loc o4_E o4_F o4_Ne o4_Body o4_Else o4_At=some r→CN n 69 [AV.ptr 0 0,AV.ptr 3 0] [Ob.var 41 [AV.ptr 1 0],Ob.var 44 [AV.sl 4 (List.map c_api_Token o1_l),iA o1_i,AV.mapp 2,iA o1_e,iA o1_at],Ob.mp none false (List.map c_mp_map_string_int o2_m),Ob.var 84 [AV.ptr 4 0],Ob.var 33 [iA o4_Kind,sA o4_Reg,sA o4_Loc,AV.sl 5 (List.map c_api_Node o4_E),AV.sl 5 (List.map c_api_Node o4_F),bA o4_Ne,iA o4_Body,iA o4_Else,iA o4_At]]=some (AV.tup [],[Ob.var 41 [AV.ptr 1 0],Ob.var 44 [AV.sl 4 (List.map c_api_Token o1_l),iA r.1,AV.mapp 2,iA r.2.1,iA r.2.2.1],Ob.mp none false (List.map c_mp_map_string_int o2_m),Ob.var 84 [AV.ptr 4 0],Ob.var 33 [iA o4_Kind,sA o4_Reg,sA o4_Loc,AV.sl 5 (List.map c_api_Node o4_E),AV.sl 5 (List.map c_api_Node o4_F),bA r.2.2.2,iA o4_Body,iA o4_Else,iA o4_At]]):=by
 intro h;rcases n with _|n;cases h
 rw [m_stmt_parser_parts_5] at h
 refine callN_eq' Tryz.func69 (by rfl) rfl rfl (Nat.le_of_ble_eq_true rfl) ?_
 intro call hc;conv=>lhs;whnf
 revert h
 refine ca hc (fun _ h=>ok_stmt_parser_is h) ?_;intro y1
 refine br ?_ ?_
 intro h;cases sj h
 try simp only [ls]
 exact fq (y:=some (AV.tup [],[Ob.var 41 [AV.ptr 1 0],Ob.var 44 [AV.sl 4 (List.map c_api_Token o1_l),iA (IntKind.i64.wrap (o1_i+1)),AV.mapp 2,iA o1_e,iA o1_at],Ob.mp none false (List.map c_mp_map_string_int o2_m),Ob.var 84 [AV.ptr 4 0],Ob.var 33 [iA o4_Kind,sA o4_Reg,sA o4_Loc,AV.sl 5 (List.map c_api_Node o4_E),AV.sl 5 (List.map c_api_Node o4_F),bA true,iA o4_Body,iA o4_Else,iA o4_At]]))
 refine ca hc (fun _ h=>ok_stmt_parser_sign h) ?_;intro y4
 intro h;cases sj h
 try simp only [ls]
 exact fq (y:=some (AV.tup [],[Ob.var 41 [AV.ptr 1 0],Ob.var 44 [AV.sl 4 (List.map c_api_Token o1_l),iA y4.1,AV.mapp 2,iA y4.2.1,iA y4.2.2],Ob.mp none false (List.map c_mp_map_string_int o2_m),Ob.var 84 [AV.ptr 4 0],Ob.var 33 [iA o4_Kind,sA o4_Reg,sA o4_Loc,AV.sl 5 (List.map c_api_Node o4_E),AV.sl 5 (List.map c_api_Node o4_F),bA false,iA o4_Body,iA o4_Else,iA o4_At]]))
end Go.Proofs.YtonhmholnneaaaaGreat
end
