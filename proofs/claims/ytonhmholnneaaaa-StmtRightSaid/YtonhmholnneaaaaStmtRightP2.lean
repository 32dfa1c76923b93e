/- Parts of the proofs: what they lean on. Conditions: none. -/
import Derived.Test.YtonhmholnneaaaaStmtRightP1
section
namespace Go.Proofs.Ytonhmholnneaaaa
set_option linter.unusedVariables false
set_option linter.unusedSimpArgs false
set_option maxRecDepth 10000
abbrev Mp := List (List UInt8 × Int)
theorem Toks.at' {T : Nat} {l : List Tk} (hk : Toks T l) {i : Nat} (h : i < l.length) : placeF l i = (l[i]).f_At := by unfold placeF; rw [List.getElem?_eq_getElem h]
theorem plainR_cases {l : List Tk} (hk : ∀ t ∈ l, TkOk t) {i : Nat} {r : PR} (hr : PE l (.fl 0) 0 i r) (hi : i ≤ l.length) :
    (∃ e a, e ≠ 0 ∧ parseR l i r = ([], 0, e, a) ∧ plainR l i r = .bad e a) ∨
    (∃ (x : List Nd) (tu : Nat), parseR l i r = (x, (tu : Int), 0, 0) ∧ i < tu ∧ tu ≤ l.length ∧ x.length ≤ 200 ∧ GoodX x ∧ (depF x (0, [])).1 ≤ 30 ∧ plainR l i r = if plnB x = true then .ok x tu else .bad 5 (placeF l i)) := by
  cases r with
  | bad e a => exact .inl ⟨e, a, PE_ok hr hi, rfl, rfl⟩
  | ok x tu =>
    have hx := PE_ok hr hi; dsimp only at hx
    have hg : GoodX x := PE_good hk hr
    simp only [parseR, plainR]
    by_cases c : 30 < (depF x (0, [])).1
    · rw [if_pos c, if_pos c]; exact .inl ⟨7, _, by decide, rfl, rfl⟩
    · rw [if_neg c, if_neg c]
      by_cases c2 : 200 < x.length
      · rw [if_pos c2, if_pos c2]; exact .inl ⟨2, _, by decide, rfl, rfl⟩
      · rw [if_neg c2, if_neg c2]; exact .inr ⟨x, tu, rfl, by omega, by omega, by omega, hg, by omega, rfl⟩
theorem is_s (n : Nat) (s : List UInt8) (l : List Tk) (i : Nat) (a b : Int) (m : Mp) : m_stmt_parser_is (n + 1) 3 s l (i : Int) a b m = some (isSg l i s) := by
  rw [m_stmt_parser_is]
  by_cases h : i < l.length
  · rw [bif_decide (by omega), idx_get h, Option.bind_some, Option.bind_some]
    unfold isSg
    rw [List.getElem?_eq_getElem h]
    dsimp only
    cases hk : (l[i].f_Kind == 3) <;> simp
  · rw [bif_not (by omega)]
    unfold isSg
    rw [List.getElem?_eq_none (by omega)]
theorem place_s (n : Nat) (l : List Tk) (i : Nat) (c a b : Int) (m : Mp) (hl : l.length < 1000000) : m_stmt_parser_place (n + 1) (i : Int) l c a b m = some (placeF l i) := by
  rw [m_stmt_parser_place]
  by_cases h : i < l.length
  · rw [bif_decide (by omega), idx_get h, Option.bind_some]
    unfold placeF
    rw [List.getElem?_eq_getElem h]
  · rw [bif_not (by omega)]
    unfold placeF
    rw [List.getElem?_eq_none (by omega)]
    by_cases h0 : l.length = 0
    · have : l = [] := List.length_eq_zero_iff.1 h0
      subst this
      rfl
    · have e : IntKind.i64.wrap ((l.length : Int) - 1) = ((l.length - 1 : Nat) : Int) := by rw [wrap64 (by omega)]; omega
      rw [e, bif_decide (by omega), idx_get (show l.length - 1 < l.length by omega), Option.bind_some, Option.bind_some, List.getElem?_eq_getElem (show l.length - 1 < l.length by omega)]
theorem fail_s (n : Nat) (l : List Tk) (i : Nat) (m : Mp) (hl : l.length < 1000000) : m_stmt_parser_fail (n + 2) l (i : Int) 0 0 m = some (errF l i, placeF l i) := by
  rw [m_stmt_parser_fail, bne_self_eq_false, cond_false, place_s n l i _ _ _ m hl, Option.bind_some]
  unfold errF
  by_cases h : i < l.length
  · rw [bif_not (by omega), if_pos h]
  · rw [bif_decide (by omega), if_neg h]
theorem sign_err (n : Nat) (s : List UInt8) (l : List Tk) (i e a : Int) (m : Mp) (he : e ≠ 0) : m_stmt_parser_sign (n + 1) s l i e a m = some (i, e, a) := by
  rw [m_stmt_parser_sign, show (e != 0) = true by rw [bne_iff_ne]; exact he, cond_true]
theorem sign_s (n : Nat) (s : List UInt8) (l : List Tk) (i : Nat) (m : Mp) (hl : l.length < 1000000) : m_stmt_parser_sign (n + 3) s l (i : Int) 0 0 m = some (if isSg l i s = true then (((i + 1 : Nat) : Int), 0, 0) else ((i : Int), errF l i, placeF l i)) := by
  rw [m_stmt_parser_sign, bne_self_eq_false, cond_false, is_s, Option.bind_some]
  by_cases c : isSg l i s = true
  · have := isS_lt c
    rw [if_pos c, c, cond_true, wrap_one i (by omega)]
  · rw [if_neg c]; rw [Bool.not_eq_true] at c
    rw [c, cond_false, fail_s n l i m hl, Option.bind_some]
def txt (l : List Tk) (i : Nat) : List UInt8 := match l[i]? with | some t => t.f_Text | none => []
theorem name_s (n : Nat) (l : List Tk) (i : Nat) (m : Mp) (hl : l.length < 1000000) : m_stmt_parser_name (n + 3) l (i : Int) 0 0 m = some (if isN l i = true then (txt l i, ((i + 1 : Nat) : Int), 0, 0) else ([], (i : Int), errF l i, placeF l i)) := by
  rw [m_stmt_parser_name, bne_self_eq_false, cond_false, fail_s n l i m hl]
  by_cases h : i < l.length
  · have e1 : IntKind.i64.wrap (IntKind.i64.wrap ((i : Int) + 1) - 1) = (i : Int) := by rw [wrap_one i (by omega), wrap64 (by omega)]; omega
    rw [bif_not (by omega), idx_get h, Option.bind_some, e1, idx_get h, wrap_one i (by omega)]
    have hn : isN l i = (l[i].f_Kind == 1 && nameB l[i].f_Text) := by unfold isN; rw [List.getElem?_eq_getElem h]
    have ht : txt l i = l[i].f_Text := by unfold txt; rw [List.getElem?_eq_getElem h]
    rw [hn, ht]
    by_cases h1 : l[i].f_Kind = 1
    · rw [h1, bne_self_eq_false, cond_false]
      simp only [Option.bind_some, m_scan_Name, beq_self_eq_true, Bool.true_and]
      cases nameB l[i].f_Text <;> rfl
    · rw [show (l[i].f_Kind != 1) = true by rw [bne_iff_ne]; exact h1, show (l[i].f_Kind == 1) = false by rw [beq_eq_false_iff_ne]; exact h1]; rfl
  · rw [bif_decide (by omega)]
    have hn : isN l i = false := by unfold isN; rw [List.getElem?_eq_none (by omega)]
    rw [hn]; rfl
theorem expr_s {T : Nat} {l : List Tk} (hk : Toks T l) {i n : Nat} (m : Mp) (hi : i ≤ l.length) (hn : 12 * l.length + T + 800 ≤ n) : m_stmt_parser_expr n l (i : Int) 0 0 m = some (match exQ l i with | .ok x tu => (x, (tu : Int), 0, 0) | .bad e a => ([], (i : Int), e, a)) := by
  obtain ⟨r, hr, e⟩ := exQ_is hk hi
  obtain ⟨n, rfl⟩ : ∃ j, n = j + 3 := ⟨n - 3, by omega⟩
  have hl := hk.len
  rw [m_stmt_parser_expr, bne_self_eq_false, cond_false, parse_prog hk.len hk.ok hk.txt hk.small hr hi (by omega), e, Option.bind_some]
  rcases plainR_cases hk.ok hr hi with ⟨e, a, h0, h1, h2⟩ | ⟨x, tu, h1, h3, h4, h5, h6, h7, h2⟩
  · rw [h1, h2]
    dsimp only
    rw [show (e != 0) = true by rw [bne_iff_ne]; exact h0]; rfl
  · rw [h1, h2]
    dsimp only
    rw [bne_self_eq_false, cond_false, plain_s h6 h5 h7 (by omega), Option.bind_some]
    by_cases c : plnB x = true
    · rw [if_pos c, c]; rfl
    · rw [if_neg c]; rw [Bool.not_eq_true] at c
      have hlt : i < l.length := by omega
      rw [c, cond_false, fail_s n l i m (by omega), Option.bind_some]
      unfold errF; rw [if_pos hlt]
end Go.Proofs.Ytonhmholnneaaaa
end
section
namespace Go.Proofs.Ytonhmholnneaaaa
set_option linter.unusedVariables false
set_option linter.unusedSimpArgs false
set_option maxRecDepth 10000
structure Fs where
  reg : List UInt8
  loc : List UInt8
  e : List Nd
  f : List Nd
  ne : Bool
inductive FR where
  | ok (s : Fs) (i : Nat)
  | bad (e a : Int)
def stepF (l : List Tk) (ex : Nat → PR) (c : UInt8) (i : Nat) (s : Fs) : FR :=
  if c.toNat = 114 then (if isN l i = true then .ok { s with reg := txt l i } (i + 1) else .bad (errF l i) (placeF l i))
  else if c.toNat = 108 then (if isN l i = true then .ok { s with loc := txt l i } (i + 1) else .bad (errF l i) (placeF l i))
  else if c.toNat = 101 then (match ex i with | .ok x tu => .ok { s with e := x } tu | .bad e a => .bad e a)
  else if c.toNat = 102 then (match ex i with | .ok x tu => .ok { s with f := x } tu | .bad e a => .bad e a)
  else if c.toNat = 113 then (if isSg l i [33, 61] = true then .ok { s with ne := true } (i + 1) else if isSg l i [61, 61] = true then .ok { s with ne := false } (i + 1) else .bad (errF l i) (placeF l i))
  else if isSg l i [c] = true then .ok s (i + 1) else .bad (errF l i) (placeF l i)
def runF (l : List Tk) (ex : Nat → PR) : List UInt8 → Nat → Fs → FR
  | [], i, s => .ok s i
  | c :: cs, i, s => match stepF l ex c i s with
    | .ok s' j => runF l ex cs j s'
    | .bad e a => .bad e a
def FRok (l : List Tk) (i : Nat) : FR → Prop
  | .ok _ j => i < j ∧ j ≤ l.length
  | .bad e _ => e ≠ 0
def FRle (l : List Tk) (i : Nat) : FR → Prop
  | .ok _ j => i ≤ j ∧ j ≤ l.length
  | .bad e _ => e ≠ 0
theorem fr_ite {Q : FR → Prop} {c : Prop} [Decidable c] {a b : FR} (h1 : c → Q a) (h2 : ¬ c → Q b) : Q (if c then a else b) := by
  by_cases h : c
  · rw [if_pos h]; exact h1 h
  · rw [if_neg h]; exact h2 h
theorem stepF_ok {T : Nat} {l : List Tk} (hk : Toks T l) {c : UInt8} {i : Nat} {s : Fs} (hi : i ≤ l.length) : FRok l i (stepF l (exQ l) c i s) := by
  have hex := exQ_ok hk hi
  have h1 : ∀ s, isSg l i s = true → i < i + 1 ∧ i + 1 ≤ l.length := fun s h => by have := isS_lt h; omega
  have h2 : isN l i = true → i < i + 1 ∧ i + 1 ≤ l.length := fun h => by have := isN_lt h; omega
  have he := err_ne l i
  unfold stepF
  refine fr_ite (fun _ => fr_ite h2 fun _ => he) fun _ => fr_ite (fun _ => fr_ite h2 fun _ => he) fun _ => fr_ite (fun _ => ?_) fun _ => fr_ite (fun _ => ?_) fun _ => fr_ite (fun _ => fr_ite (h1 _) fun _ => fr_ite (h1 _) fun _ => he) fun _ => fr_ite (h1 _) fun _ => he
  · revert hex; cases exQ l i with
    | ok x tu => intro h; exact ⟨h.1, h.2.1⟩
    | bad e a => intro h; exact h
  · revert hex; cases exQ l i with
    | ok x tu => intro h; exact ⟨h.1, h.2.1⟩
    | bad e a => intro h; exact h
theorem runF_ok {T : Nat} {l : List Tk} (hk : Toks T l) : ∀ (cs : List UInt8) (i : Nat) (s : Fs), i ≤ l.length → FRle l i (runF l (exQ l) cs i s)
  | [], i, s, hi => ⟨Nat.le_refl _, hi⟩
  | c :: cs, i, s, hi => by
    have h := stepF_ok hk (c := c) (s := s) hi
    unfold runF
    revert h
    cases stepF l (exQ l) c i s with
    | bad e a => intro h; exact h
    | ok s' j =>
      intro h
      have := runF_ok hk cs j s' h.2
      dsimp only
      revert this
      cases runF l (exQ l) cs j s' with
      | ok s2 j2 => intro h2; exact ⟨Nat.le_trans (Nat.le_of_lt h.1) h2.1, h2.2⟩
      | bad e a => intro h2; exact h2
theorem cut1 (pre cs : List UInt8) (c : UInt8) (h : pre.length < 1000000) : List.drop ((pre.length : Int)).toNat (List.take (IntKind.i64.wrap ((pre.length : Int) + 1)).toNat (pre ++ c :: cs)) = [c] := by
  rw [wrap_one pre.length (by omega)]
  rw [Int.toNat_natCast, Int.toNat_natCast, List.take_append, List.take_of_length_le (by omega), show pre.length + 1 - pre.length = 1 by omega, List.drop_append_of_le_length (by omega), List.drop_length]
  simp
theorem cutb (pre cs : List UInt8) (c : UInt8) (h : pre.length < 1000000) : (decide (0 ≤ IntKind.i64.wrap ((pre.length : Int) + 1)) && decide (IntKind.i64.wrap ((pre.length : Int) + 1) ≤ (((pre ++ c :: cs).length : Nat) : Int)) && decide (0 ≤ (pre.length : Int)) && decide ((pre.length : Int) ≤ IntKind.i64.wrap ((pre.length : Int) + 1))) = true := by
  rw [wrap_one pre.length (by omega)]
  simp only [Bool.and_eq_true, decide_eq_true_eq, List.length_append, List.length_cons]
  omega
theorem idx_pre (pre cs : List UInt8) (c : UInt8) : idx (pre ++ c :: cs) (pre.length : Int) = some c := by rw [idx_nat]; simp
end Go.Proofs.Ytonhmholnneaaaa
end
section
namespace Go.Proofs.Ytonhmholnneaaaa
set_option linter.unusedVariables false
set_option linter.unusedSimpArgs false
set_option maxRecDepth 10000
theorem dec_u8 (c : UInt8) (k : Nat) (K : Int) (hK : (k : Int) = K) : decide ((c.toNat : Int) = K) = decide (c.toNat = k) := by
  subst hK
  by_cases h : c.toNat = k
  · rw [h]; simp
  · rw [decide_eq_false h, decide_eq_false (by omega)]
theorem fieldsErr_s {l : List Tk} {n : Nat} (hn : 5 < n) (m : Mp) (x4 : Tk) (y5 : S_stmt_kind × Bool) (y8 : Int) (i e a : Int) (he : e ≠ 0) (s : Fs) : ∀ (cs pre : List UInt8) (k : Nat), y5.1.f_form = pre ++ cs → (pre ++ cs).length < 100 → cs.length < k →
    stmt_parser_one_L0 n l m x4 y5 y8 k (pre.length : Int) i e a s.reg s.loc s.e s.f s.ne = some (.out (i, e, a, s.reg, s.loc, s.e, s.f, s.ne)) := by
  intro cs
  obtain ⟨n, rfl⟩ : ∃ j, n = j + 1 := ⟨n - 1, by omega⟩
  have hb : (e == 0) = false := by rw [beq_eq_false_iff_ne]; exact he
  induction cs with
  | nil =>
    intro pre k hf hlen hkk
    obtain ⟨k, rfl⟩ : ∃ j, k = j + 1 := ⟨k - 1, by omega⟩
    rw [stmt_parser_one_L0, hf, bif_not (by simp)]
  | cons c cs ih =>
    intro pre k hf hlen hkk
    obtain ⟨k, rfl⟩ : ∃ j, k = j + 1 := ⟨k - 1, by omega⟩
    have hp : pre.length < 1000000 := by simp at hlen; omega
    have go := ih (pre ++ [c]) k (by simpa using hf) (by simpa using hlen) (by simp at hkk; omega)
    simp only [List.length_append, List.length_singleton] at go
    have hw := wrap_one pre.length (show pre.length < 4611686018427387904 by omega)
    rw [stmt_parser_one_L0, hf, bif_decide (show ((pre.length : Nat) : Int) < (((pre ++ c :: cs).length : Nat) : Int) by simp; omega)]
    simp only [idx_pre, Option.bind_some, hb, cond_false, cutb pre cs c hp, cond_true, cut1 pre cs c hp, sign_err _ _ _ _ _ _ _ he]
    simp only [hw, go]
    cases decide ((c.toNat : Int) = 114) <;> cases decide ((c.toNat : Int) = 108) <;> cases decide ((c.toNat : Int) = 101) <;> cases decide ((c.toNat : Int) = 102) <;> cases decide ((c.toNat : Int) = 113) <;> rfl
theorem fields_s {T : Nat} {l : List Tk} (hk : Toks T l) {n : Nat} (hn : 12 * l.length + T + 900 ≤ n) (m : Mp) (x4 : Tk) (y5 : S_stmt_kind × Bool) (y8 : Int) : ∀ (cs pre : List UInt8) (i k : Nat) (s : Fs), y5.1.f_form = pre ++ cs → i ≤ l.length → (pre ++ cs).length < 100 → cs.length < k →
    match runF l (exQ l) cs i s with
    | .ok s' j => stmt_parser_one_L0 n l m x4 y5 y8 k (pre.length : Int) (i : Int) 0 0 s.reg s.loc s.e s.f s.ne = some (.out ((j : Int), 0, 0, s'.reg, s'.loc, s'.e, s'.f, s'.ne))
    | .bad e a => ∃ (i' : Int) (s' : Fs), stmt_parser_one_L0 n l m x4 y5 y8 k (pre.length : Int) (i : Int) 0 0 s.reg s.loc s.e s.f s.ne = some (.out (i', e, a, s'.reg, s'.loc, s'.e, s'.f, s'.ne)) := by
  intro cs
  induction cs with
  | nil =>
    intro pre i k s hf hi hlen hkk
    obtain ⟨k, rfl⟩ : ∃ j, k = j + 1 := ⟨k - 1, by omega⟩
    rw [runF, stmt_parser_one_L0, hf, bif_not (by simp)]
  | cons c cs ih =>
    intro pre i k s hf hi hlen hkk
    obtain ⟨k, rfl⟩ : ∃ j, k = j + 1 := ⟨k - 1, by omega⟩
    obtain ⟨n, rfl⟩ : ∃ j, n = j + 5 := ⟨n - 5, by omega⟩
    have hl := hk.len
    have hp : pre.length < 1000000 := by simp at hlen; omega
    have hlen' : (pre ++ [c] ++ cs).length < 100 := by simpa using hlen
    have hf' : y5.1.f_form = pre ++ [c] ++ cs := by simpa using hf
    have hkk' : cs.length < k := by simp at hkk; omega
    have go : ∀ (j : Nat) (s' : Fs), j ≤ l.length → match runF l (exQ l) cs j s' with
        | .ok s2 j2 => stmt_parser_one_L0 (n + 5) l m x4 y5 y8 k ((pre.length + 1 : Nat) : Int) (j : Int) 0 0 s'.reg s'.loc s'.e s'.f s'.ne = some (.out ((j2 : Int), 0, 0, s2.reg, s2.loc, s2.e, s2.f, s2.ne))
        | .bad e a => ∃ (i' : Int) (s2 : Fs), stmt_parser_one_L0 (n + 5) l m x4 y5 y8 k ((pre.length + 1 : Nat) : Int) (j : Int) 0 0 s'.reg s'.loc s'.e s'.f s'.ne = some (.out (i', e, a, s2.reg, s2.loc, s2.e, s2.f, s2.ne)) := fun j s' hj => by
      have := ih (pre ++ [c]) j k s' hf' hj hlen' hkk'
      simpa only [List.length_append, List.length_singleton] using this
    have stop : ∀ (i' e a : Int) (s' : Fs), e ≠ 0 → stmt_parser_one_L0 (n + 5) l m x4 y5 y8 k ((pre.length + 1 : Nat) : Int) i' e a s'.reg s'.loc s'.e s'.f s'.ne = some (.out (i', e, a, s'.reg, s'.loc, s'.e, s'.f, s'.ne)) := fun i' e a s' he => by
      have := fieldsErr_s (l := l) (n := n + 5) (by omega) m x4 y5 y8 i' e a he s' cs (pre ++ [c]) k hf' hlen' hkk'
      simpa only [List.length_append, List.length_singleton] using this
    have hex := exQ_ok hk hi
    have hw := wrap_one pre.length (show pre.length < 4611686018427387904 by omega)
    have hee := err_ne l i
    unfold runF stepF
    rw [stmt_parser_one_L0, hf, bif_decide (show ((pre.length : Nat) : Int) < (((pre ++ c :: cs).length : Nat) : Int) by simp; omega)]
    simp only [idx_pre, Option.bind_some, dec_u8 c 114 114 rfl, dec_u8 c 108 108 rfl, dec_u8 c 101 101 rfl, dec_u8 c 102 102 rfl, dec_u8 c 113 113 rfl, beq_self_eq_true, cond_true]
    by_cases c1 : c.toNat = 114
    · simp only [if_pos c1, decide_eq_true c1, cond_true, m_stmt_parser_parts_1, name_s (n + 1) l i m (by omega), Option.bind_some]
      by_cases h : isN l i = true
      · simp only [if_pos h, hw]
        exact go (i + 1) { s with reg := txt l i } (isN_lt h)
      · simp only [if_neg h, hw]
        exact ⟨_, _, stop (i : Int) _ _ { s with reg := [] } hee⟩
    · rw [if_neg c1]
      simp only [decide_eq_false c1, cond_false]
      by_cases c2 : c.toNat = 108
      · simp only [if_pos c2, decide_eq_true c2, cond_true, m_stmt_parser_parts_2, name_s (n + 1) l i m (by omega), Option.bind_some]
        by_cases h : isN l i = true
        · simp only [if_pos h, hw]
          exact go (i + 1) { s with loc := txt l i } (isN_lt h)
        · simp only [if_neg h, hw]
          exact ⟨_, _, stop (i : Int) _ _ { s with loc := [] } hee⟩
      · rw [if_neg c2]
        simp only [decide_eq_false c2, cond_false]
        by_cases c3 : c.toNat = 101
        · simp only [if_pos c3, decide_eq_true c3, cond_true, m_stmt_parser_parts_3, expr_s hk m hi (show 12 * l.length + T + 800 ≤ n + 4 by omega), Option.bind_some]
          revert hex
          cases exQ l i with
          | bad e a =>
            intro hex
            simp only [hw]
            exact ⟨_, _, stop (i : Int) e a { s with e := [] } hex⟩
          | ok y tu =>
            intro hex
            simp only [hw]
            exact go tu { s with e := y } hex.2.1
        · rw [if_neg c3]
          simp only [decide_eq_false c3, cond_false]
          by_cases c4 : c.toNat = 102
          · simp only [if_pos c4, decide_eq_true c4, cond_true, m_stmt_parser_parts_4, expr_s hk m hi (show 12 * l.length + T + 800 ≤ n + 4 by omega), Option.bind_some]
            revert hex
            cases exQ l i with
            | bad e a =>
              intro hex
              simp only [hw]
              exact ⟨_, _, stop (i : Int) e a { s with f := [] } hex⟩
            | ok y tu =>
              intro hex
              simp only [hw]
              exact go tu { s with f := y } hex.2.1
          · rw [if_neg c4]
            simp only [decide_eq_false c4, cond_false]
            by_cases c5 : c.toNat = 113
            · simp only [if_pos c5, decide_eq_true c5, cond_true, m_stmt_parser_parts_5, is_s, sign_s (n + 1) _ l i m (show l.length < 1000000 by omega), Option.bind_some]
              by_cases h : isSg l i [33, 61] = true
              · have hlt := isS_lt h
                rw [if_pos h, h, cond_true, Option.bind_some, wrap_one i (by omega), hw]
                exact go (i + 1) { s with ne := true } hlt
              · rw [if_neg h]; rw [Bool.not_eq_true] at h
                rw [h, cond_false]
                by_cases h' : isSg l i [61, 61] = true
                · have hlt := isS_lt h'
                  simp only [if_pos h', Option.bind_some, hw]
                  exact go (i + 1) { s with ne := false } hlt
                · simp only [if_neg h', Option.bind_some, hw]
                  exact ⟨_, _, stop (i : Int) _ _ { s with ne := false } hee⟩
            · rw [if_neg c5]
              simp only [decide_eq_false c5, cond_false, cutb pre cs c hp, cut1 pre cs c hp, cond_true, sign_s (n + 2) _ l i m (show l.length < 1000000 by omega), Option.bind_some]
              by_cases h : isSg l i [c] = true
              · have hlt := isS_lt h
                simp only [if_pos h, hw]
                exact go (i + 1) s hlt
              · simp only [if_neg h, hw]
                exact ⟨_, _, stop (i : Int) _ _ s hee⟩
end Go.Proofs.Ytonhmholnneaaaa
end
section
namespace Go.Proofs.Ytonhmholnneaaaa
set_option linter.unusedVariables false
set_option linter.unusedSimpArgs false
set_option maxRecDepth 10000
def wordsM : Mp := [([115,107,105,112], 1), ([115,101,116], 2), ([108,111,97,100], 3), ([115,116,111,114,101], 4), ([99,97,115], 5), ([102,97,100,100], 6), ([120,99,104,103], 7), ([102,101,110,99,101], 8), ([97,119,97,105,116], 9), ([105,102], 10), ([119,104,105,108,101], 11), ([108,111,111,112], 12), ([98,114,101,97,107], 13)]
def kindW (s : List UInt8) : Int := mget wordsM s 0
def kindAt (l : List Tk) (i : Nat) : Int := match l[i]? with
  | some t => if t.f_Kind = 1 then kindW t.f_Text else 0
  | none => 0
def formK (k : Int) : List UInt8 :=
  if k = 2 then [114,61,101,59] else if k = 3 then [114,61,108,59] else if k = 4 then [108,61,101,59] else if k = 5 then [114,61,108,44,101,44,102,59]
  else if k = 6 then [114,61,108,44,101,59] else if k = 7 then [114,61,108,44,101,59] else if k = 9 then [108,113,101,59] else if k = 10 then [101] else if k = 11 then [101] else if k = 12 then [] else [59]
def blockK (k : Int) : Bool := k == 10 || (k == 11 || k == 12)
theorem kindW_in (s : List UInt8) : 0 ≤ kindW s ∧ kindW s ≤ 13 := by
  unfold kindW wordsM
  simp only [mget]
  repeat' split
  all_goals omega
theorem kindAt_in (l : List Tk) (i : Nat) : 0 ≤ kindAt l i ∧ kindAt l i ≤ 13 := by
  unfold kindAt
  split
  · split
    · exact kindW_in _
    · omega
  · omega
theorem kindAt_lt {l : List Tk} {i : Nat} (h : kindAt l i ≠ 0) : i < l.length := by
  unfold kindAt at h
  cases hg : l[i]? with
  | none => rw [hg] at h; exact absurd rfl h
  | some t => exact some_lt hg
theorem kindAt_sign {l : List Tk} {i : Nat} (h : kindAt l i ≠ 0) (s : List UInt8) : isSg l i s = false := by
  unfold kindAt at h
  cases hg : l[i]? with
  | none => rw [hg] at h; exact absurd rfl h
  | some t =>
    rw [hg] at h
    dsimp only at h
    by_cases hk : t.f_Kind = 1
    · simp [isSg, hg, hk]
    · rw [if_neg hk] at h; exact absurd rfl h
theorem form_len (k : Int) : (formK k).length < 10 := by unfold formK; repeat' split
                                                         all_goals decide
def wordsL : List (List UInt8) := [[], [115,107,105,112], [115,101,116], [108,111,97,100], [115,116,111,114,101], [99,97,115], [102,97,100,100], [120,99,104,103], [102,101,110,99,101], [97,119,97,105,116], [105,102], [119,104,105,108,101], [108,111,111,112], [98,114,101,97,107]]
inductive SR where
  | ok (x : List St) (tu : Nat)
  | bad (e a : Int)
def consR (x : List St) : SR → SR
  | .ok y tu => .ok (x ++ y) tu
  | .bad e a => .bad e a
def isElse (l : List Tk) (i : Nat) : Bool := match l[i]? with
  | some t => t.f_Kind == 1 && t.f_Text == [101, 108, 115, 101]
  | none => false
def fs0 : Fs := ⟨[], [], [], [], false⟩
def mkS (k : Int) (s : Fs) (b c : Nat) (a : Int) : St := ⟨k, s.reg, s.loc, s.e, s.f, s.ne, (b : Int), (c : Int), a⟩
inductive SE (l : List Tk) : Bool → Nat → Nat → SR → Prop
  | stop {inn i : Nat} : (l.length ≤ i ∨ isSg l i [125] = true) → SE l false inn i (.ok [] i)
  | no {inn i : Nat} : i < l.length → isSg l i [125] = false → kindAt l i = 0 → SE l false inn i (.bad 5 (placeF l i))
  | fbad {inn i : Nat} {e a : Int} : kindAt l i ≠ 0 → runF l (exQ l) (formK (kindAt l i)) (i + 1) fs0 = .bad e a → SE l false inn i (.bad e a)
  | simple {inn i j : Nat} {s : Fs} {r : SR} : kindAt l i ≠ 0 → blockK (kindAt l i) = false → runF l (exQ l) (formK (kindAt l i)) (i + 1) fs0 = .ok s j → SE l false inn j r → SE l false inn i (consR [mkS (kindAt l i) s 0 0 (placeF l i)] r)
  | bbad {inn i j : Nat} {s : Fs} {e a : Int} : kindAt l i ≠ 0 → blockK (kindAt l i) = true → runF l (exQ l) (formK (kindAt l i)) (i + 1) fs0 = .ok s j → SE l true inn j (.bad e a) → SE l false inn i (.bad e a)
  | blk {inn i j j2 : Nat} {s : Fs} {b : List St} {r : SR} : kindAt l i ≠ 0 → blockK (kindAt l i) = true → runF l (exQ l) (formK (kindAt l i)) (i + 1) fs0 = .ok s j → SE l true inn j (.ok b j2) → (kindAt l i = 10 → isElse l j2 = false) → SE l false inn j2 r → SE l false inn i (consR (mkS (kindAt l i) s b.length 0 (placeF l i) :: b) r)
  | ebad {inn i j j2 : Nat} {s : Fs} {b : List St} {e a : Int} : kindAt l i = 10 → runF l (exQ l) (formK (kindAt l i)) (i + 1) fs0 = .ok s j → SE l true inn j (.ok b j2) → isElse l j2 = true → SE l true inn (j2 + 1) (.bad e a) → SE l false inn i (.bad e a)
  | els {inn i j j2 j3 : Nat} {s : Fs} {b c : List St} {r : SR} : kindAt l i = 10 → runF l (exQ l) (formK (kindAt l i)) (i + 1) fs0 = .ok s j → SE l true inn j (.ok b j2) → isElse l j2 = true → SE l true inn (j2 + 1) (.ok c j3) → SE l false inn j3 r → SE l false inn i (consR (mkS (kindAt l i) s b.length c.length (placeF l i) :: (b ++ c)) r)
  | nob {inn i : Nat} : isSg l i [123] = false → SE l true inn i (.bad (errF l i) (placeF l i))
  | deep {inn i : Nat} : isSg l i [123] = true → 30 ≤ inn → SE l true inn i (.bad 7 (placeF l i))
  | sbad {inn i : Nat} {e a : Int} : isSg l i [123] = true → inn < 30 → SE l false (inn + 1) (i + 1) (.bad e a) → SE l true inn i (.bad e a)
  | close {inn i j : Nat} {x : List St} : isSg l i [123] = true → inn < 30 → SE l false (inn + 1) (i + 1) (.ok x j) → isSg l j [125] = true → SE l true inn i (.ok x (j + 1))
  | opn {inn i j : Nat} {x : List St} : isSg l i [123] = true → inn < 30 → SE l false (inn + 1) (i + 1) (.ok x j) → isSg l j [125] = false → SE l true inn i (.bad (errF l j) (placeF l j))
def SRok (l : List Tk) (i d : Nat) : SR → Prop
  | .ok x tu => i + d ≤ tu ∧ tu ≤ l.length ∧ x.length + d ≤ tu - i
  | .bad e _ => e ≠ 0
theorem runF_le {T : Nat} {l : List Tk} (hk : Toks T l) {cs : List UInt8} {i j : Nat} {s s' : Fs} (hi : i ≤ l.length) (h : runF l (exQ l) cs i s = .ok s' j) : i ≤ j ∧ j ≤ l.length := by
  have := runF_ok hk cs i s hi
  rw [h] at this; exact this
theorem isElse_lt {l : List Tk} {i : Nat} (h : isElse l i = true) : i < l.length := by
  unfold isElse at h
  cases hg : l[i]? with
  | none => rw [hg] at h; cases h
  | some t => exact some_lt hg
theorem SE_ok {T : Nat} {l : List Tk} (hk : Toks T l) {md : Bool} {inn i : Nat} {r : SR} (h : SE l md inn i r) : i ≤ l.length → SRok l i (if md then 1 else 0) r := by
  induction h with
  | stop h => intro hi; exact ⟨by simp, hi, by simp⟩
  | no h1 h2 h3 => intro hi; show (5 : Int) ≠ 0; decide
  | @fbad inn i e a h1 h2 =>
    intro hi
    have := runF_ok hk (formK (kindAt l i)) (i + 1) fs0 (kindAt_lt h1)
    rw [h2] at this; exact this
  | @simple inn i j s r h1 h2 h3 h4 ih =>
    intro hi
    have h5 := runF_le hk (kindAt_lt h1) h3
    have h6 := ih h5.2
    cases r with
    | ok x tu => simp only [consR, SRok, Bool.false_eq_true, if_false, List.length_append, List.length_singleton] at h6 ⊢; omega
    | bad e a => exact h6
  | bbad h1 h2 h3 h4 ih => intro hi; exact ih (runF_le hk (kindAt_lt h1) h3).2
  | @blk inn i j j2 s b r h1 h2 h3 h4 h5 h6 ih1 ih2 =>
    intro hi
    have h7 := runF_le hk (kindAt_lt h1) h3
    have h8 := ih1 h7.2
    simp only [SRok, if_true] at h8
    have h9 := ih2 h8.2.1
    cases r with
    | ok x tu => simp only [consR, SRok, Bool.false_eq_true, if_false, List.length_append, List.length_cons] at h9 ⊢; omega
    | bad e a => exact h9
  | @ebad inn i j j2 s b e a h1 h3 h4 h5 h6 ih1 ih2 => intro hi; exact ih2 (isElse_lt h5)
  | @els inn i j j2 j3 s b c r h1 h3 h4 h5 h6 h7 ih1 ih2 ih3 =>
    intro hi
    have h10 : kindAt l i ≠ 0 := by omega
    have h8 := runF_le hk (kindAt_lt h10) h3
    have h9 := ih1 h8.2
    have h11 := ih2 (isElse_lt h5)
    simp only [SRok, if_true] at h9 h11
    have h12 := ih3 h11.2.1
    cases r with
    | ok x tu => simp only [consR, SRok, Bool.false_eq_true, if_false, List.length_append, List.length_cons] at h12 ⊢; omega
    | bad e a => exact h12
  | nob h => intro hi; exact err_ne l _
  | deep h1 h2 => intro hi; show (7 : Int) ≠ 0; decide
  | sbad h1 h2 h3 ih => intro hi; exact ih (isS_lt h1)
  | close h1 h2 h3 h4 ih => intro hi; have := ih (isS_lt h1); have := isS_lt h4; simp only [SRok, Bool.false_eq_true, if_false, if_true] at *; omega
  | opn h1 h2 h3 h4 ih => intro hi; exact err_ne l _
end Go.Proofs.Ytonhmholnneaaaa
end
section
namespace Go.Proofs.Ytonhmholnneaaaa
set_option linter.unusedVariables false
set_option linter.unusedSimpArgs false
set_option maxRecDepth 10000
abbrev SRes := List St × Int × Int × Int
end Go.Proofs.Ytonhmholnneaaaa
end
section
namespace Go.Proofs.Ytonhmholnneaaaa
set_option linter.unusedVariables false
set_option linter.unusedSimpArgs false
set_option maxRecDepth 10000
theorem ise_s (n : Nat) (l : List Tk) (i : Nat) (a b : Int) (m : Mp) : m_stmt_parser_is (n + 1) 1 [101, 108, 115, 101] l (i : Int) a b m = some (isElse l i) := by
  rw [m_stmt_parser_is]
  by_cases h : i < l.length
  · rw [bif_decide (by omega), idx_get h, Option.bind_some, Option.bind_some]
    unfold isElse
    rw [List.getElem?_eq_getElem h]
    dsimp only
    cases l[i].f_Kind == 1 <;> simp
  · rw [bif_not (by omega)]
    unfold isElse
    rw [List.getElem?_eq_none (by omega)]
theorem of_s (n : Nat) {k : Int} (h0 : 0 ≤ k) (h1 : k ≤ 13) : ∃ w, m_stmt_of (n + 2) k = some (if k = 0 then (⟨[], [], false, false⟩, false) else (⟨w, formK k, blockK k, k == 10⟩, true)) := by
  have c : k = 0 ∨ k = 1 ∨ k = 2 ∨ k = 3 ∨ k = 4 ∨ k = 5 ∨ k = 6 ∨ k = 7 ∨ k = 8 ∨ k = 9 ∨ k = 10 ∨ k = 11 ∨ k = 12 ∨ k = 13 := by omega
  rcases c with rfl | rfl | rfl | rfl | rfl | rfl | rfl | rfl | rfl | rfl | rfl | rfl | rfl | rfl <;> first | exact ⟨[], rfl⟩ | exact ⟨_, rfl⟩
theorem one_no {l : List Tk} {n i : Nat} {inn : Int} (hl : l.length < 1000000) (hi : i < l.length) (hk : kindAt l i = 0) : m_stmt_parser_one (n + 5) inn l (i : Int) 0 0 wordsM = some ([], (i : Int), 5, placeF l i) := by
  have hd : decide ((i : Int) < ((l.length : Nat) : Int)) = true := by simpa using hi
  have he : errF l i = 5 := by unfold errF; rw [if_pos hi]
  obtain ⟨w, hof⟩ := of_s (n + 2) (k := 0) (by decide) (by decide)
  rw [if_pos rfl] at hof
  have hkk := hk
  unfold kindAt at hk
  rw [List.getElem?_eq_getElem hi] at hk
  dsimp only at hk
  rw [m_stmt_parser_one, hd, cond_true, idx_get hi, Option.bind_some]
  by_cases h1 : l[i].f_Kind = 1
  · rw [if_pos h1] at hk
    have hk : mget wordsM l[i].f_Text 0 = 0 := hk
    rw [h1, beq_self_eq_true, cond_true, Option.bind_some, hk, hof, Option.bind_some, cond_false, fail_s (n + 2) l i wordsM hl, he]; rfl
  · rw [show (l[i].f_Kind == 1) = false by rw [beq_eq_false_iff_ne]; exact h1, cond_false, show m_stmt_of_1 (n + 4) = some ⟨[], [], false, false⟩ from rfl, Option.bind_some, fail_s (n + 2) l i wordsM hl, he]; rfl
theorem list_err {l : List Tk} {n : Nat} {inn i e a : Int} (m : Mp) (he : e ≠ 0) : m_stmt_parser_list (n + 2) inn l i e a m = some ([], i, e, a) := by
  rw [m_stmt_parser_list, stmt_parser_list_L0, show (e == 0) = false by rw [beq_eq_false_iff_ne]; exact he]; rfl
theorem block_err {l : List Tk} {n : Nat} {inn i e a : Int} (m : Mp) (he : e ≠ 0) : m_stmt_parser_block (n + 4) inn l i e a m = some ([], i, e, a) := by
  rw [m_stmt_parser_block, show (e == 0) = false by rw [beq_eq_false_iff_ne]; exact he, cond_false, sign_err _ _ _ _ _ _ _ he, Option.bind_some]
  dsimp only
  rw [list_err m he, Option.bind_some]
  dsimp only
  rw [sign_err _ _ _ _ _ _ _ he]; rfl
noncomputable def tailS (n : Nat) (inn : Int) (l : List Tk) (K P : Int) (o : LR (Int × Int × Int × (List UInt8) × (List UInt8) × (List Nd) × (List Nd) × Bool) SRes) : Option SRes := match o with
  | .out (x73, x74, x75, x76, x77, x78, x79, x80) =>
    bif blockK K then ((m_stmt_parser_block n inn l x73 x74 x75 wordsM).bind fun y82 =>
      bif K == 10 then (bif y82.2.2.1 == 0 then ((m_stmt_parser_is n 1 [101, 108, 115, 101] l y82.2.1 y82.2.2.1 y82.2.2.2 wordsM).bind fun y86 =>
        bif y86 then ((m_stmt_parser_block n inn l (IntKind.i64.wrap (y82.2.1 + 1)) y82.2.2.1 y82.2.2.2 wordsM).bind fun y89 =>
          (bif decide ((([(⟨K, x76, x77, x78, x79, x80, ((y82.1.length : Nat) : Int), ((y89.1.length : Nat) : Int), P⟩ : St)] : List St).length + y82.1.length) * 121 ≤ 140737488355328) then (bif decide (((([(⟨K, x76, x77, x78, x79, x80, ((y82.1.length : Nat) : Int), ((y89.1.length : Nat) : Int), P⟩ : St)] : List St) ++ y82.1).length + y89.1.length) * 121 ≤ 140737488355328) then some ((([(⟨K, x76, x77, x78, x79, x80, ((y82.1.length : Nat) : Int), ((y89.1.length : Nat) : Int), P⟩ : St)] : List St) ++ y82.1) ++ y89.1, y89.2.1, y89.2.2.1, y89.2.2.2) else none) else none))
        else (bif decide ((([(⟨K, x76, x77, x78, x79, x80, ((y82.1.length : Nat) : Int), 0, P⟩ : St)] : List St).length + y82.1.length) * 121 ≤ 140737488355328) then (bif decide (((([(⟨K, x76, x77, x78, x79, x80, ((y82.1.length : Nat) : Int), 0, P⟩ : St)] : List St) ++ y82.1).length + 0) * 121 ≤ 140737488355328) then some (([(⟨K, x76, x77, x78, x79, x80, ((y82.1.length : Nat) : Int), 0, P⟩ : St)] : List St) ++ y82.1, y82.2.1, y82.2.2.1, y82.2.2.2) else none) else none))
       else (bif decide ((([(⟨K, x76, x77, x78, x79, x80, ((y82.1.length : Nat) : Int), 0, P⟩ : St)] : List St).length + y82.1.length) * 121 ≤ 140737488355328) then (bif decide (((([(⟨K, x76, x77, x78, x79, x80, ((y82.1.length : Nat) : Int), 0, P⟩ : St)] : List St) ++ y82.1).length + 0) * 121 ≤ 140737488355328) then some (([(⟨K, x76, x77, x78, x79, x80, ((y82.1.length : Nat) : Int), 0, P⟩ : St)] : List St) ++ y82.1, y82.2.1, y82.2.2.1, y82.2.2.2) else none) else none))
      else (bif decide ((([(⟨K, x76, x77, x78, x79, x80, ((y82.1.length : Nat) : Int), 0, P⟩ : St)] : List St).length + y82.1.length) * 121 ≤ 140737488355328) then (bif decide (((([(⟨K, x76, x77, x78, x79, x80, ((y82.1.length : Nat) : Int), 0, P⟩ : St)] : List St) ++ y82.1).length + 0) * 121 ≤ 140737488355328) then some (([(⟨K, x76, x77, x78, x79, x80, ((y82.1.length : Nat) : Int), 0, P⟩ : St)] : List St) ++ y82.1, y82.2.1, y82.2.2.1, y82.2.2.2) else none) else none))
    else some ([(⟨K, x76, x77, x78, x79, x80, 0, 0, P⟩ : St)], x73, x74, x75)
  | .ret v => some v
theorem block10 {K : Int} (h : blockK K = false) : (K == 10) = false := by
  cases hq : K == 10 with
  | false => rfl
  | true => rw [blockK, hq] at h; cases h
theorem one_yes {l : List Tk} {n i : Nat} {inn : Int} (hl : l.length < 1000000) (h0 : kindAt l i ≠ 0) : ∃ (t : Tk) (w : List UInt8), m_stmt_parser_one (n + 5) inn l (i : Int) 0 0 wordsM = (stmt_parser_one_L0 (n + 4) l wordsM t (⟨w, formK (kindAt l i), blockK (kindAt l i), kindAt l i == 10⟩, true) (placeF l i) (n + 4) 0 ((i + 1 : Nat) : Int) 0 0 [] [] [] [] false).bind (tailS (n + 4) inn l (kindAt l i) (placeF l i)) := by
  have hi := kindAt_lt h0
  have hd : decide ((i : Int) < ((l.length : Nat) : Int)) = true := by simpa using hi
  obtain ⟨k0, k1⟩ := kindAt_in l i
  obtain ⟨w, hof⟩ := of_s (n + 2) k0 k1
  rw [if_neg h0] at hof
  have h1 : l[i].f_Kind = 1 := by
    by_cases h : l[i].f_Kind = 1
    · exact h
    · unfold kindAt at h0; rw [List.getElem?_eq_getElem hi] at h0; dsimp only at h0; rw [if_neg h] at h0; exact absurd rfl h0
  have hm : mget wordsM l[i].f_Text 0 = kindAt l i := by unfold kindAt; rw [List.getElem?_eq_getElem hi]; dsimp only; rw [if_pos h1]; rfl
  refine ⟨l[i], w, ?_⟩
  rw [m_stmt_parser_one, hd, cond_true, idx_get hi, Option.bind_some, h1, beq_self_eq_true, cond_true, Option.bind_some, hm, hof, Option.bind_some]
  dsimp only
  rw [cond_true, place_s (n + 3) l i _ _ _ wordsM hl, Option.bind_some, wrap_one i (by omega)]
  rw [show inlF (n + 4) = fun f => f (n + 3) from rfl]
  dsimp only
  congr 1
  funext o
  cases o with
  | ret v => rfl
  | out x =>
    obtain ⟨x73, x74, x75, x76, x77, x78, x79, x80⟩ := x
    dsimp only [tailS]
    cases hb : blockK (kindAt l i) with
    | true => rfl
    | false => rw [block10 hb]; rfl
end Go.Proofs.Ytonhmholnneaaaa
end
section
namespace Go.Proofs.Ytonhmholnneaaaa
set_option linter.unusedVariables false
set_option linter.unusedSimpArgs false
set_option maxRecDepth 10000
theorem fieldsP {T : Nat} {l : List Tk} (hk : Toks T l) {n i : Nat} (hn : 12 * l.length + T + 900 ≤ n) (hi : i ≤ l.length) (t : Tk) (w : List UInt8) (K P : Int) :
    match runF l (exQ l) (formK K) i fs0 with
    | .ok s j => stmt_parser_one_L0 n l wordsM t (⟨w, formK K, blockK K, K == 10⟩, true) P n 0 (i : Int) 0 0 [] [] [] [] false = some (.out ((j : Int), 0, 0, s.reg, s.loc, s.e, s.f, s.ne))
    | .bad e a => ∃ (i' : Int) (s : Fs), stmt_parser_one_L0 n l wordsM t (⟨w, formK K, blockK K, K == 10⟩, true) P n 0 (i : Int) 0 0 [] [] [] [] false = some (.out (i', e, a, s.reg, s.loc, s.e, s.f, s.ne)) := by
  have hf := form_len K
  exact fields_s hk hn wordsM t (⟨w, formK K, blockK K, K == 10⟩, true) P (formK K) [] i n fs0 (by rw [List.nil_append]) hi (by rw [List.nil_append]; omega) (by omega)
theorem loop_step {l : List Tk} {n k i : Nat} {inn : Int} {out X : List St} {p e a : Int} (h0 : i < l.length) (h1 : isSg l i [125] = false) (h : m_stmt_parser_one (n + 1) inn l (i : Int) 0 0 wordsM = some (X, p, e, a)) (hs : out.length + X.length < 1000000000) :
    stmt_parser_list_L0 (n + 1) (m_stmt_parser_one (n + 1)) inn l wordsM (k + 1) (i : Int) 0 0 out = stmt_parser_list_L0 (n + 1) (m_stmt_parser_one (n + 1)) inn l wordsM k p e a (out ++ X) := by
  rw [stmt_parser_list_L0, beq_self_eq_true, cond_true, bif_decide (by omega), is_s, h1, Option.bind_some, cond_false, h, Option.bind_some]
  dsimp only
  rw [bif_decide (by omega)]
theorem loop_end {l : List Tk} {n k : Nat} {inn p e a : Int} {out : List St} (he : e ≠ 0) : stmt_parser_list_L0 n (m_stmt_parser_one n) inn l wordsM (k + 1) p e a out = some (.out (p, e, a, out)) := by
  rw [stmt_parser_list_L0, show (e == 0) = false by rw [beq_eq_false_iff_ne]; exact he, cond_false]
theorem implP {T : Nat} {l : List Tk} (hk : Toks T l) {md : Bool} {inn i : Nat} {r : SR} (h : SE l md inn i r) : i ≤ l.length → inn ≤ 30 → match md with
    | false => ∀ (n k : Nat) (out : List St), 12 * l.length + T + 900 + 6 * (l.length - i) + 20 ≤ n → l.length - i + 1 < k → out.length ≤ i → (match r with
      | .ok x tu => stmt_parser_list_L0 n (m_stmt_parser_one n) (inn : Int) l wordsM k (i : Int) 0 0 out = some (.out ((tu : Int), 0, 0, out ++ x))
      | .bad e a => ∃ (X : List St) (p : Int), stmt_parser_list_L0 n (m_stmt_parser_one n) (inn : Int) l wordsM k (i : Int) 0 0 out = some (.out (p, e, a, X)) ∧ X.length ≤ out.length + 2 * (l.length - i) + 2)
    | true => ∀ n : Nat, 12 * l.length + T + 900 + 6 * (l.length - i) + 24 ≤ n → (match r with
      | .ok x tu => m_stmt_parser_block n (inn : Int) l (i : Int) 0 0 wordsM = some (x, (tu : Int), 0, 0)
      | .bad e a => ∃ (X : List St) (p : Int), m_stmt_parser_block n (inn : Int) l (i : Int) 0 0 wordsM = some (X, p, e, a) ∧ X.length ≤ 2 * (l.length - i) + 2) := by
  have hl := hk.len
  induction h with
  | @stop inn i h1 =>
    intro hi hn n k out hf hkk ho
    obtain ⟨k, rfl⟩ : ∃ j, k = j + 1 := ⟨k - 1, by omega⟩
    obtain ⟨n, rfl⟩ : ∃ j, n = j + 1 := ⟨n - 1, by omega⟩
    show stmt_parser_list_L0 _ _ _ _ _ _ _ _ _ _ = some (LR.out ((i : Int), 0, 0, out ++ []))
    rw [List.append_nil, stmt_parser_list_L0, beq_self_eq_true, cond_true]
    by_cases h2 : i < l.length
    · rw [bif_decide (by omega), is_s, (h1.resolve_left (by omega))]; rfl
    · rw [bif_not (by omega)]
  | @no inn i h1 h2 h3 =>
    intro hi hn n k out hf hkk ho
    obtain ⟨k, rfl⟩ : ∃ j, k = j + 2 := ⟨k - 2, by omega⟩
    obtain ⟨n, rfl⟩ : ∃ j, n = j + 5 := ⟨n - 5, by omega⟩
    refine ⟨out, (i : Int), ?_, by omega⟩
    rw [loop_step (n := n + 4) h1 h2 (one_no (by omega) h1 h3) (by simp; omega), loop_end (by decide), List.append_nil]
  | @fbad inn i e a h1 h2 =>
    intro hi hn n k out hf hkk ho
    obtain ⟨k, rfl⟩ : ∃ j, k = j + 2 := ⟨k - 2, by omega⟩
    obtain ⟨n, rfl⟩ : ∃ j, n = j + 10 := ⟨n - 10, by omega⟩
    have hlt := kindAt_lt h1
    have hne : e ≠ 0 := by
      have := runF_ok hk (formK (kindAt l i)) (i + 1) fs0 hlt
      rw [h2] at this; exact this
    have hb : (e == 0) = false := by rw [beq_eq_false_iff_ne]; exact hne
    obtain ⟨t, w, ho1⟩ := one_yes (n := n + 5) (inn := (inn : Int)) (show l.length < 1000000 by omega) h1
    have hx := fieldsP hk (n := n + 9) (by omega) hlt t w (kindAt l i) (placeF l i)
    rw [h2] at hx
    obtain ⟨i', s, hx⟩ := hx
    have h5 : m_stmt_parser_one (n + 10) (inn : Int) l (i : Int) 0 0 wordsM = some ([⟨kindAt l i, s.reg, s.loc, s.e, s.f, s.ne, 0, 0, placeF l i⟩], i', e, a) := by
      rw [ho1, hx, Option.bind_some]
      dsimp only [tailS]
      rw [block_err wordsM hne]
      cases blockK (kindAt l i) <;> cases (kindAt l i == 10) <;> simp [hb]
    refine ⟨out ++ [⟨kindAt l i, s.reg, s.loc, s.e, s.f, s.ne, 0, 0, placeF l i⟩], i', ?_, ?_⟩
    · rw [loop_step (n := n + 9) hlt (kindAt_sign h1 _) h5 (by simp; omega), loop_end hne]
    · simp; omega
  | @simple inn i j s r h1 h2 h3 h4 ih =>
    intro hi hn n k out hf hkk ho
    obtain ⟨k, rfl⟩ : ∃ j, k = j + 1 := ⟨k - 1, by omega⟩
    have h5 := runF_le hk (kindAt_lt h1) h3
    have hlt := kindAt_lt h1
    have h6 := ih h5.2 hn n k (out ++ [mkS (kindAt l i) s 0 0 (placeF l i)]) (by omega) (by omega) (by simp; omega)
    obtain ⟨n, rfl⟩ : ∃ j, n = j + 10 := ⟨n - 10, by omega⟩
    obtain ⟨t, w, ho1⟩ := one_yes (n := n + 5) (inn := (inn : Int)) (show l.length < 1000000 by omega) h1
    have hx := fieldsP hk (n := n + 9) (by omega) hlt t w (kindAt l i) (placeF l i)
    rw [h3] at hx
    have hx : stmt_parser_one_L0 (n + 9) l wordsM t _ (placeF l i) (n + 9) 0 ((i + 1 : Nat) : Int) 0 0 [] [] [] [] false = _ := hx
    have h7 : m_stmt_parser_one (n + 10) (inn : Int) l (i : Int) 0 0 wordsM = some ([mkS (kindAt l i) s 0 0 (placeF l i)], (j : Int), 0, 0) := by
      rw [ho1, hx, Option.bind_some]
      dsimp only [tailS]
      rw [h2]; rfl
    rw [loop_step (n := n + 9) hlt (kindAt_sign h1 _) h7 (by simp; omega)]
    cases r with
    | ok x tu => dsimp only [consR] at h6 ⊢; rw [h6, List.append_assoc]
    | bad e a =>
      obtain ⟨X, p, g1, g2⟩ := h6
      exact ⟨X, p, g1, by simp at g2; omega⟩
  | @bbad inn i j s e a h1 h2 h3 h4 ih =>
    intro hi hn n k out hf hkk ho
    obtain ⟨k, rfl⟩ : ∃ j, k = j + 2 := ⟨k - 2, by omega⟩
    have h5 := runF_le hk (kindAt_lt h1) h3
    have hlt := kindAt_lt h1
    have hne : e ≠ 0 := SE_ok hk h4 h5.2
    have hb : (e == 0) = false := by rw [beq_eq_false_iff_ne]; exact hne
    obtain ⟨n, rfl⟩ : ∃ j, n = j + 10 := ⟨n - 10, by omega⟩
    obtain ⟨X, p, g1, g2⟩ := ih h5.2 hn (n + 9) (by omega)
    obtain ⟨t, w, ho1⟩ := one_yes (n := n + 5) (inn := (inn : Int)) (show l.length < 1000000 by omega) h1
    have hx := fieldsP hk (n := n + 9) (by omega) hlt t w (kindAt l i) (placeF l i)
    rw [h3] at hx
    have hx : stmt_parser_one_L0 (n + 9) l wordsM t _ (placeF l i) (n + 9) 0 ((i + 1 : Nat) : Int) 0 0 [] [] [] [] false = _ := hx
    have h7 : m_stmt_parser_one (n + 10) (inn : Int) l (i : Int) 0 0 wordsM = some (mkS (kindAt l i) s X.length 0 (placeF l i) :: X, p, e, a) := by
      rw [ho1, hx, Option.bind_some]
      dsimp only [tailS]
      rw [h2, cond_true, g1, Option.bind_some]
      dsimp only
      rw [hb, cond_false, bif_decide (by simp; omega), bif_decide (by simp; omega)]
      cases (kindAt l i == 10) <;> rfl
    refine ⟨out ++ (mkS (kindAt l i) s X.length 0 (placeF l i) :: X), p, ?_, ?_⟩
    · rw [loop_step (n := n + 9) hlt (kindAt_sign h1 _) h7 (by simp; omega), loop_end hne]
    · simp; omega
  | @blk inn i j j2 s b r h1 h2 h3 h4 h5 h6 ih1 ih2 =>
    intro hi hn n k out hf hkk ho
    obtain ⟨k, rfl⟩ : ∃ j, k = j + 1 := ⟨k - 1, by omega⟩
    have h7 := runF_le hk (kindAt_lt h1) h3
    have hlt := kindAt_lt h1
    have h8 := SE_ok hk h4 h7.2
    simp only [SRok, if_true] at h8
    have h10 := ih2 h8.2.1 hn n k (out ++ (mkS (kindAt l i) s b.length 0 (placeF l i) :: b)) (by omega) (by omega) (by simp; omega)
    obtain ⟨n, rfl⟩ : ∃ j, n = j + 10 := ⟨n - 10, by omega⟩
    have g1 : m_stmt_parser_block (n + 9) (inn : Int) l (j : Int) 0 0 wordsM = some (b, (j2 : Int), 0, 0) := ih1 h7.2 hn (n + 9) (by omega)
    obtain ⟨t, w, ho1⟩ := one_yes (n := n + 5) (inn := (inn : Int)) (show l.length < 1000000 by omega) h1
    have hx := fieldsP hk (n := n + 9) (by omega) hlt t w (kindAt l i) (placeF l i)
    rw [h3] at hx
    have hx : stmt_parser_one_L0 (n + 9) l wordsM t _ (placeF l i) (n + 9) 0 ((i + 1 : Nat) : Int) 0 0 [] [] [] [] false = _ := hx
    have hel : (kindAt l i == 10) = true → isElse l j2 = false := fun h => h5 (by simpa using h)
    have h9 : m_stmt_parser_one (n + 10) (inn : Int) l (i : Int) 0 0 wordsM = some (mkS (kindAt l i) s b.length 0 (placeF l i) :: b, (j2 : Int), 0, 0) := by
      rw [ho1, hx, Option.bind_some]
      dsimp only [tailS]
      rw [h2, cond_true, g1, Option.bind_some]
      dsimp only
      rw [beq_self_eq_true, cond_true, ise_s, Option.bind_some, bif_decide (by simp; omega), bif_decide (by simp; omega)]
      cases hq : kindAt l i == 10 with
      | true => rw [hel hq]; rfl
      | false => rfl
    rw [loop_step (n := n + 9) hlt (kindAt_sign h1 _) h9 (by simp; omega)]
    cases r with
    | ok x tu => dsimp only [consR] at h10 ⊢; rw [h10, List.append_assoc]
    | bad e a =>
      obtain ⟨X, p, q1, q2⟩ := h10
      exact ⟨X, p, q1, by simp at q2; omega⟩
  | @ebad inn i j j2 s b e a h1 h3 h4 h5 h6 ih1 ih2 =>
    intro hi hn n k out hf hkk ho
    obtain ⟨k, rfl⟩ : ∃ j, k = j + 2 := ⟨k - 2, by omega⟩
    have h0 : kindAt l i ≠ 0 := by omega
    have h7 := runF_le hk (kindAt_lt h0) h3
    have hlt := kindAt_lt h0
    have hj := isElse_lt h5
    have h8 := SE_ok hk h4 h7.2
    simp only [SRok, if_true] at h8
    have hne : e ≠ 0 := SE_ok hk h6 hj
    have hbl : blockK (kindAt l i) = true := by rw [h1]; rfl
    have hq : (kindAt l i == 10) = true := by rw [h1]; rfl
    obtain ⟨n, rfl⟩ : ∃ j, n = j + 10 := ⟨n - 10, by omega⟩
    have g1 : m_stmt_parser_block (n + 9) (inn : Int) l (j : Int) 0 0 wordsM = some (b, (j2 : Int), 0, 0) := ih1 h7.2 hn (n + 9) (by omega)
    obtain ⟨X, p, g3, g4⟩ := ih2 hj hn (n + 9) (by omega)
    obtain ⟨t, w, ho1⟩ := one_yes (n := n + 5) (inn := (inn : Int)) (show l.length < 1000000 by omega) h0
    have hx := fieldsP hk (n := n + 9) (by omega) hlt t w (kindAt l i) (placeF l i)
    rw [h3] at hx
    have hx : stmt_parser_one_L0 (n + 9) l wordsM t _ (placeF l i) (n + 9) 0 ((i + 1 : Nat) : Int) 0 0 [] [] [] [] false = _ := hx
    have h9 : m_stmt_parser_one (n + 10) (inn : Int) l (i : Int) 0 0 wordsM = some (mkS (kindAt l i) s b.length X.length (placeF l i) :: (b ++ X), p, e, a) := by
      rw [ho1, hx, Option.bind_some]
      dsimp only [tailS]
      rw [hbl, cond_true, g1, Option.bind_some]
      dsimp only
      rw [hq, cond_true, beq_self_eq_true, cond_true, ise_s, h5, Option.bind_some, cond_true, wrap_one j2 (by omega), g3, Option.bind_some]
      dsimp only
      rw [bif_decide (by simp; omega), bif_decide (by simp; omega)]; rfl
    refine ⟨out ++ (mkS (kindAt l i) s b.length X.length (placeF l i) :: (b ++ X)), p, ?_, ?_⟩
    · rw [loop_step (n := n + 9) hlt (kindAt_sign h0 _) h9 (by simp; omega), loop_end hne]
    · simp; omega
  | @els inn i j j2 j3 s b c r h1 h3 h4 h5 h6 h7 ih1 ih2 ih3 =>
    intro hi hn n k out hf hkk ho
    obtain ⟨k, rfl⟩ : ∃ j, k = j + 1 := ⟨k - 1, by omega⟩
    have h0 : kindAt l i ≠ 0 := by omega
    have h8 := runF_le hk (kindAt_lt h0) h3
    have hlt := kindAt_lt h0
    have hj := isElse_lt h5
    have h9 := SE_ok hk h4 h8.2
    simp only [SRok, if_true] at h9
    have h9' := SE_ok hk h6 hj
    simp only [SRok, if_true] at h9'
    have h12 := ih3 h9'.2.1 hn n k (out ++ (mkS (kindAt l i) s b.length c.length (placeF l i) :: (b ++ c))) (by omega) (by omega) (by simp; omega)
    have hbl : blockK (kindAt l i) = true := by rw [h1]; rfl
    have hq : (kindAt l i == 10) = true := by rw [h1]; rfl
    obtain ⟨n, rfl⟩ : ∃ j, n = j + 10 := ⟨n - 10, by omega⟩
    have g1 : m_stmt_parser_block (n + 9) (inn : Int) l (j : Int) 0 0 wordsM = some (b, (j2 : Int), 0, 0) := ih1 h8.2 hn (n + 9) (by omega)
    have g3 : m_stmt_parser_block (n + 9) (inn : Int) l ((j2 + 1 : Nat) : Int) 0 0 wordsM = some (c, (j3 : Int), 0, 0) := ih2 hj hn (n + 9) (by omega)
    obtain ⟨t, w, ho1⟩ := one_yes (n := n + 5) (inn := (inn : Int)) (show l.length < 1000000 by omega) h0
    have hx := fieldsP hk (n := n + 9) (by omega) hlt t w (kindAt l i) (placeF l i)
    rw [h3] at hx
    have hx : stmt_parser_one_L0 (n + 9) l wordsM t _ (placeF l i) (n + 9) 0 ((i + 1 : Nat) : Int) 0 0 [] [] [] [] false = _ := hx
    have h10 : m_stmt_parser_one (n + 10) (inn : Int) l (i : Int) 0 0 wordsM = some (mkS (kindAt l i) s b.length c.length (placeF l i) :: (b ++ c), (j3 : Int), 0, 0) := by
      rw [ho1, hx, Option.bind_some]
      dsimp only [tailS]
      rw [hbl, cond_true, g1, Option.bind_some]
      dsimp only
      rw [hq, cond_true, beq_self_eq_true, cond_true, ise_s, h5, Option.bind_some, cond_true, wrap_one j2 (by omega), g3, Option.bind_some]
      dsimp only
      rw [bif_decide (by simp; omega), bif_decide (by simp; omega)]; rfl
    rw [loop_step (n := n + 9) hlt (kindAt_sign h0 _) h10 (by simp; omega)]
    cases r with
    | ok x tu => dsimp only [consR] at h12 ⊢; rw [h12, List.append_assoc]
    | bad e a =>
      obtain ⟨X, p, q1, q2⟩ := h12
      exact ⟨X, p, q1, by simp at q2; omega⟩
  | @nob inn i h1 =>
    intro hi hn n hf
    obtain ⟨n, rfl⟩ : ∃ j, n = j + 6 := ⟨n - 6, by omega⟩
    refine ⟨[], (i : Int), ?_, by simp⟩
    have hs : m_stmt_parser_sign (n + 5) [123] l (i : Int) 0 0 wordsM = some ((i : Int), errF l i, placeF l i) := by rw [sign_s (n + 2) _ l i wordsM (by omega), if_neg (by rw [h1]; decide)]
    rw [m_stmt_parser_block, beq_self_eq_true, cond_true, is_s, h1, Option.bind_some, cond_false, hs, Option.bind_some]
    dsimp only
    rw [list_err wordsM (err_ne l i), Option.bind_some]
    dsimp only
    rw [sign_err _ _ _ _ _ _ _ (err_ne l i)]; rfl
  | @deep inn i h1 h2 =>
    intro hi hn n hf
    obtain ⟨n, rfl⟩ : ∃ j, n = j + 6 := ⟨n - 6, by omega⟩
    refine ⟨[], (i : Int), ?_, by simp⟩
    have h7 : (7 : Int) ≠ 0 := by decide
    rw [m_stmt_parser_block, beq_self_eq_true, cond_true, is_s, h1, Option.bind_some, cond_true, bif_decide (by omega), place_s (n + 4) l i _ _ _ wordsM (by omega), Option.bind_some, sign_err _ _ _ _ _ _ _ h7, Option.bind_some]
    dsimp only
    rw [list_err wordsM h7, Option.bind_some]
    dsimp only
    rw [sign_err _ _ _ _ _ _ _ h7]; rfl
  | @sbad inn i e a h1 h2 h3 ih =>
    intro hi hn n hf
    have hlt := isS_lt h1
    obtain ⟨n, rfl⟩ : ∃ j, n = j + 6 := ⟨n - 6, by omega⟩
    have hne : e ≠ 0 := SE_ok hk h3 hlt
    have hs : m_stmt_parser_sign (n + 5) [123] l (i : Int) 0 0 wordsM = some (((i + 1 : Nat) : Int), 0, 0) := by rw [sign_s (n + 2) _ l i wordsM (by omega), if_pos h1]
    obtain ⟨X, p, g1, g2⟩ := ih hlt (by omega) (n + 4) (n + 4) [] (by omega) (by omega) (by simp)
    have h5 : m_stmt_parser_list (n + 5) ((inn + 1 : Nat) : Int) l ((i + 1 : Nat) : Int) 0 0 wordsM = some (X, p, e, a) := by rw [m_stmt_parser_list, g1]; rfl
    refine ⟨X, p, ?_, by simp at g2; omega⟩
    rw [m_stmt_parser_block, beq_self_eq_true, cond_true, is_s, h1, Option.bind_some, cond_true, bif_not (by omega), hs, Option.bind_some]
    dsimp only
    rw [wrap_one inn (by omega), h5, Option.bind_some]
    dsimp only
    rw [sign_err _ _ _ _ _ _ _ hne]; rfl
  | @close inn i j x h1 h2 h3 h4 ih =>
    intro hi hn n hf
    have hlt := isS_lt h1
    obtain ⟨n, rfl⟩ : ∃ j, n = j + 6 := ⟨n - 6, by omega⟩
    have hs : m_stmt_parser_sign (n + 5) [123] l (i : Int) 0 0 wordsM = some (((i + 1 : Nat) : Int), 0, 0) := by rw [sign_s (n + 2) _ l i wordsM (by omega), if_pos h1]
    have hs2 : m_stmt_parser_sign (n + 5) [125] l (j : Int) 0 0 wordsM = some (((j + 1 : Nat) : Int), 0, 0) := by rw [sign_s (n + 2) _ l j wordsM (by omega), if_pos h4]
    have g1 := ih hlt (by omega) (n + 4) (n + 4) [] (by omega) (by omega) (by simp)
    dsimp only at g1
    have h5 : m_stmt_parser_list (n + 5) ((inn + 1 : Nat) : Int) l ((i + 1 : Nat) : Int) 0 0 wordsM = some (x, (j : Int), 0, 0) := by rw [m_stmt_parser_list, g1]; rfl
    show m_stmt_parser_block (n + 6) _ _ _ _ _ _ = _
    rw [m_stmt_parser_block, beq_self_eq_true, cond_true, is_s, h1, Option.bind_some, cond_true, bif_not (by omega), hs, Option.bind_some]
    dsimp only
    rw [wrap_one inn (by omega), h5, Option.bind_some]
    dsimp only
    rw [hs2]; rfl
  | @opn inn i j x h1 h2 h3 h4 ih =>
    intro hi hn n hf
    have hlt := isS_lt h1
    have h8 := SE_ok hk h3 hlt
    simp only [SRok, Bool.false_eq_true, if_false] at h8
    obtain ⟨n, rfl⟩ : ∃ j, n = j + 6 := ⟨n - 6, by omega⟩
    have hs : m_stmt_parser_sign (n + 5) [123] l (i : Int) 0 0 wordsM = some (((i + 1 : Nat) : Int), 0, 0) := by rw [sign_s (n + 2) _ l i wordsM (by omega), if_pos h1]
    have hs2 : m_stmt_parser_sign (n + 5) [125] l (j : Int) 0 0 wordsM = some ((j : Int), errF l j, placeF l j) := by rw [sign_s (n + 2) _ l j wordsM (by omega), if_neg (by rw [h4]; decide)]
    have g1 := ih hlt (by omega) (n + 4) (n + 4) [] (by omega) (by omega) (by simp)
    dsimp only at g1
    have h5 : m_stmt_parser_list (n + 5) ((inn + 1 : Nat) : Int) l ((i + 1 : Nat) : Int) 0 0 wordsM = some (x, (j : Int), 0, 0) := by rw [m_stmt_parser_list, g1]; rfl
    refine ⟨x, (j : Int), ?_, by omega⟩
    rw [m_stmt_parser_block, beq_self_eq_true, cond_true, is_s, h1, Option.bind_some, cond_true, bif_not (by omega), hs, Option.bind_some]
    dsimp only
    rw [wrap_one inn (by omega), h5, Option.bind_some]
    dsimp only
    rw [hs2]; rfl
end Go.Proofs.Ytonhmholnneaaaa
end
section
namespace Go.Proofs.Ytonhmholnneaaaa
set_option linter.unusedVariables false
set_option linter.unusedSimpArgs false
set_option maxRecDepth 10000
theorem se_total {T : Nat} {l : List Tk} (hk : Toks T l) : ∀ (m i inn : Nat) (md : Bool), l.length - i ≤ m → i ≤ l.length → inn ≤ 30 → ∃ r, SE l md inn i r := by
  intro m
  induction m with
  | zero =>
    intro i inn md hm hi hn
    have hs : ∀ s, isSg l i s = false := fun s => by
      cases h : isSg l i s with
      | false => rfl
      | true => have := isS_lt h; omega
    cases md with
    | false => exact ⟨_, .stop (.inl (by omega))⟩
    | true => exact ⟨_, .nob (hs _)⟩
  | succ m ih =>
    intro i inn md hm hi hn
    cases md with
    | true =>
      cases h : isSg l i [123] with
      | false => exact ⟨_, .nob h⟩
      | true =>
        by_cases h30 : 30 ≤ inn
        · exact ⟨_, .deep h h30⟩
        · have hlt := isS_lt h
          obtain ⟨r, hr⟩ := ih (i + 1) (inn + 1) false (by omega) hlt (by omega)
          cases r with
          | bad e a => exact ⟨_, .sbad h (by omega) hr⟩
          | ok x j =>
            cases h2 : isSg l j [125] with
            | true => exact ⟨_, .close h (by omega) hr h2⟩
            | false => exact ⟨_, .opn h (by omega) hr h2⟩
    | false =>
      by_cases hlt : i < l.length
      · cases h : isSg l i [125] with
        | true => exact ⟨_, .stop (.inr h)⟩
        | false =>
          by_cases h0 : kindAt l i = 0
          · exact ⟨_, .no hlt h h0⟩
          · cases hf : runF l (exQ l) (formK (kindAt l i)) (i + 1) fs0 with
            | bad e a => exact ⟨_, .fbad h0 hf⟩
            | ok s j =>
              have hj := runF_le hk (by omega) hf
              cases hb : blockK (kindAt l i) with
              | false =>
                obtain ⟨r, hr⟩ := ih j inn false (by omega) hj.2 hn
                exact ⟨_, .simple h0 hb hf hr⟩
              | true =>
                obtain ⟨r, hr⟩ := ih j inn true (by omega) hj.2 hn
                cases r with
                | bad e a => exact ⟨_, .bbad h0 hb hf hr⟩
                | ok b j2 =>
                  have hj2 := SE_ok hk hr hj.2
                  simp only [SRok, if_true] at hj2
                  by_cases he : kindAt l i = 10 ∧ isElse l j2 = true
                  · have hj3 := isElse_lt he.2
                    obtain ⟨r3, hr3⟩ := ih (j2 + 1) inn true (by omega) hj3 hn
                    cases r3 with
                    | bad e a => exact ⟨_, .ebad he.1 hf hr he.2 hr3⟩
                    | ok c j4 =>
                      have hj4 := SE_ok hk hr3 hj3
                      simp only [SRok, if_true] at hj4
                      obtain ⟨r5, hr5⟩ := ih j4 inn false (by omega) hj4.2.1 hn
                      exact ⟨_, .els he.1 hf hr he.2 hr3 hr5⟩
                  · obtain ⟨r5, hr5⟩ := ih j2 inn false (by omega) hj2.2.1 hn
                    refine ⟨_, .blk h0 hb hf hr (fun hq => ?_) hr5⟩
                    cases hx : isElse l j2 with
                    | false => rfl
                    | true => exact absurd ⟨hq, hx⟩ he
      · exact ⟨_, .stop (.inl (by omega))⟩
def kindsL : List S_stmt_kind := match m_stmt_kinds 1 with | some y => y | none => []
theorem words_s (n k : Nat) : stmt_Parse_L0 n kindsL (k + 15) 0 [] = some (.out wordsM) := by rfl
def parseS (l : List Tk) (i : Nat) : SR → SRes
  | .bad e a => ([], 0, e, a)
  | .ok x tu => if 200 < x.length then ([], 0, 2, placeF l i) else (x, (tu : Int), 0, 0)
end Go.Proofs.Ytonhmholnneaaaa
end
section
namespace Go.Proofs.Ytonhmholnneaaaa
set_option linter.unusedVariables false
set_option linter.unusedSimpArgs false
set_option maxRecDepth 10000
theorem tokens03_m (n : Nat) (s : List UInt8) (hs : s.length < 1000000) (hn : s.length + 60 < n) : m_law03_tokens n s = some (toksS s) := by
  obtain ⟨n, rfl⟩ : ∃ j, n = j + 1 := ⟨n - 1, by omega⟩
  rw [m_law03_tokens, scan_m n s hs (by omega)]; rfl
theorem toks_of (s : List UInt8) (hs : s.length ≤ 90000) : Toks s.length (toksS s) := by
  obtain ⟨h1, h2⟩ := toksS_ok s
  refine ⟨by omega, fun t ht => (h1 t ht).1, fun t ht => ?_, by omega⟩
  have h3 := h1 t ht
  have h4 := h3.1.1
  omega
end Go.Proofs.Ytonhmholnneaaaa
end
section
namespace Go.Proofs.Ytonhmholnneaaaa
set_option linter.unusedVariables false
set_option linter.unusedSimpArgs false
set_option maxRecDepth 10000
inductive SF where
  | nil
  | cons (x : St) (a b r : SF)
def SF.flat : SF → List St
  | .nil => []
  | .cons x a b r => x :: (a.flat ++ (b.flat ++ r.flat))
def SF.wf : SF → Prop
  | .nil => True
  | .cons x a b r => x.f_Body = (a.flat.length : Int) ∧ x.f_Else = (b.flat.length : Int) ∧ a.wf ∧ b.wf ∧ r.wf
def SF.dep : SF → Nat
  | .nil => 0
  | .cons x a b r => max (if blockK x.f_Kind then max (1 + a.dep) (1 + b.dep) else 0) r.dep
def dF : Nat → List St → Option Nat
  | 0, _ => none
  | _ + 1, [] => some 0
  | m + 1, x :: t => if 0 ≤ x.f_Body ∧ 0 ≤ x.f_Else ∧ x.f_Body + x.f_Else ≤ (t.length : Int) then
      (dF m (t.take x.f_Body.toNat)).bind fun p => (dF m ((t.drop x.f_Body.toNat).take x.f_Else.toNat)).bind fun q => (dF m (t.drop (x.f_Body.toNat + x.f_Else.toNat))).bind fun z => some (max (if blockK x.f_Kind then max (1 + p) (1 + q) else 0) z)
    else none
theorem dF_flat : ∀ (F : SF) (m : Nat), F.wf → F.flat.length < m → dF m F.flat = some F.dep
  | .nil, m, _, h => by
    obtain ⟨m, rfl⟩ : ∃ j, m = j + 1 := ⟨m - 1, by omega⟩
    rfl
  | .cons x a b r, m, h, hm => by
    obtain ⟨m, rfl⟩ : ∃ j, m = j + 1 := ⟨m - 1, by omega⟩
    obtain ⟨h1, h2, ha, hb, hr⟩ := h
    rw [SF.flat] at hm ⊢
    simp only [List.length_cons, List.length_append] at hm
    rw [dF, if_pos ⟨by omega, by omega, by rw [h1, h2]; simp only [List.length_append]; omega⟩, h1, h2]
    have e1 : (a.flat ++ (b.flat ++ r.flat)).take ((a.flat.length : Nat) : Int).toNat = a.flat := by simp
    have e2 : (a.flat ++ (b.flat ++ r.flat)).drop ((a.flat.length : Nat) : Int).toNat = b.flat ++ r.flat := by simp
    have e3 : (b.flat ++ r.flat).take ((b.flat.length : Nat) : Int).toNat = b.flat := by simp
    have e4 : (a.flat ++ (b.flat ++ r.flat)).drop (((a.flat.length : Nat) : Int).toNat + ((b.flat.length : Nat) : Int).toNat) = r.flat := by
      rw [← List.drop_drop, e2]; simp
    rw [e1, e2, e3, e4, dF_flat a m ha (by omega), dF_flat b m hb (by omega), dF_flat r m hr (by omega)]
    rfl
theorem of_dF : ∀ (m : Nat) (l : List St) (z : Nat), dF m l = some z → ∃ F : SF, F.wf ∧ F.flat = l ∧ F.dep = z := by
  intro m
  induction m with
  | zero => intro l z h; cases h
  | succ m ih =>
    intro l z h
    cases l with
    | nil => rw [dF] at h; cases h; exact ⟨.nil, trivial, rfl, rfl⟩
    | cons x t =>
      rw [dF] at h
      by_cases c : 0 ≤ x.f_Body ∧ 0 ≤ x.f_Else ∧ x.f_Body + x.f_Else ≤ (t.length : Int)
      · rw [if_pos c] at h
        obtain ⟨p, h1, h⟩ := Option.bind_eq_some_iff.1 h
        obtain ⟨q, h2, h⟩ := Option.bind_eq_some_iff.1 h
        obtain ⟨r, h3, h⟩ := Option.bind_eq_some_iff.1 h
        obtain ⟨A, a1, a2, a3⟩ := ih _ _ h1
        obtain ⟨B, b1, b2, b3⟩ := ih _ _ h2
        obtain ⟨R, r1, r2, r3⟩ := ih _ _ h3
        have hA : A.flat.length = x.f_Body.toNat := by rw [a2, List.length_take]; omega
        have hB : B.flat.length = x.f_Else.toNat := by rw [b2, List.length_take, List.length_drop]; omega
        refine ⟨.cons x A B R, ⟨by omega, by omega, a1, b1, r1⟩, ?_, ?_⟩
        · rw [SF.flat, a2, b2, r2, ← List.drop_drop, List.take_append_drop, List.take_append_drop]
        · rw [SF.dep, a3, b3, r3]; exact Option.some.inj h
      · rw [if_neg c] at h; cases h
def seg (l : List St) (i j : Nat) : List St := (l.take j).drop i
theorem seg_len {l : List St} {i j : Nat} (h : j ≤ l.length) : (seg l i j).length = j - i := by unfold seg; rw [List.length_drop, List.length_take]; omega
theorem seg_cons {l : List St} {i j : Nat} (h : i < j) (hj : j ≤ l.length) : seg l i j = (l[i]'(by omega)) :: seg l (i + 1) j := by
  unfold seg
  rw [List.drop_eq_getElem_cons (by rw [List.length_take]; omega), List.getElem_take]
theorem seg_none {l : List St} {i j : Nat} (h : j ≤ i) : seg l i j = [] := by
  unfold seg; exact List.drop_of_length_le (by rw [List.length_take]; omega)
theorem seg_take {l : List St} {i j k : Nat} (h : i + k ≤ j) : (seg l i j).take k = seg l i (i + k) := by
  unfold seg; rw [List.take_drop, List.take_take]; congr 2; omega
theorem seg_drop {l : List St} {i j k : Nat} : (seg l i j).drop k = seg l (i + k) j := by
  unfold seg; rw [List.drop_drop]
theorem nests_m (n : Nat) (k : Int) : m_stmt_nests (n + 1) k = some (blockK k) := by
  rw [m_stmt_nests, blockK]
  cases k == 10 <;> cases k == 11 <;> cases k == 12 <;> rfl
def depO : Option Nat → Int
  | some z => (z : Int)
  | none => -1
theorem max3_m (a p q : Nat) : max3 (a : Int) ((1 + p : Nat) : Int) ((1 + q : Nat) : Int) = ((max a (max (1 + p) (1 + q)) : Nat) : Int) := by
  unfold max3; repeat' split
  all_goals omega
theorem dep_m (l : List St) (hl : l.length < 1000000) : ∀ (m i j n k a : Nat), m ≤ 1000001 → i ≤ j → j ≤ l.length → j - i < m → 3 * m + 10 ≤ n → m ≤ k → a ≤ 1000001 →
    match dF m (seg l i j) with
    | some z => z < m ∧ stmt_walk_stmt_depth_1_L0 n (m_stmt_depth_1 n) l (j : Int) l k (i : Int) (a : Int) = some (.out ((max a z : Nat) : Int))
    | none => ∃ d, stmt_walk_stmt_depth_1_L0 n (m_stmt_depth_1 n) l (j : Int) l k (i : Int) (a : Int) = some (.ret (false, d)) := by
  intro m
  induction m with
  | zero => intro i j n k a _ _ _ h; omega
  | succ m ih =>
    intro i j n k a hmm hij hj hm hn hk ha
    obtain ⟨k, rfl⟩ : ∃ q, k = q + 1 := ⟨k - 1, by omega⟩
    by_cases c : i < j
    · rw [seg_cons c hj, dF, stmt_walk_stmt_depth_1_L0, bif_decide (by omega), idx_get (show i < l.length by omega), Option.bind_some]
      have hx : l[i]? = some (l[i]'(by omega)) := List.getElem?_eq_getElem (by omega)
      generalize l[i]'(by omega) = x at *
      have hw : IntKind.i64.wrap (IntKind.i64.wrap ((j : Int) - (i : Int)) - 1) = ((j - i - 1 : Nat) : Int) := by
        rw [wrap64 (show -9223372036854775808 ≤ (j : Int) - (i : Int) ∧ _ by omega), wrap64 (by omega)]; omega
      rw [seg_len hj, hw]
      by_cases h1 : x.f_Body < 0
      · rw [bif_decide h1, if_neg (by omega)]; exact ⟨_, rfl⟩
      rw [bif_not h1]
      by_cases h2 : x.f_Else < 0
      · rw [bif_decide h2, if_neg (by omega)]; exact ⟨_, rfl⟩
      rw [bif_not h2]
      by_cases h3 : ((j - i - 1 : Nat) : Int) < x.f_Body
      · rw [bif_decide h3, if_neg (by omega)]; exact ⟨_, rfl⟩
      rw [bif_not h3, wrap64 (show -9223372036854775808 ≤ ((j - i - 1 : Nat) : Int) - x.f_Body ∧ _ by omega)]
      by_cases h4 : ((j - i - 1 : Nat) : Int) - x.f_Body < x.f_Else
      · rw [bif_decide h4, if_neg (by omega)]; exact ⟨_, rfl⟩
      rw [bif_not h4, if_pos ⟨by omega, by omega, by omega⟩]
      obtain ⟨B, hB⟩ : ∃ B : Nat, x.f_Body = B := ⟨x.f_Body.toNat, by omega⟩
      obtain ⟨E, hE⟩ : ∃ E : Nat, x.f_Else = E := ⟨x.f_Else.toNat, by omega⟩
      rw [hB] at h3
      rw [hB, hE] at h4 ⊢
      have w1 : IntKind.i64.wrap (IntKind.i64.wrap ((i : Int) + 1) + (B : Int)) = ((i + 1 + B : Nat) : Int) := by
        rw [wrap64 (show -9223372036854775808 ≤ (i : Int) + 1 ∧ _ by omega), wrap64 (by omega)]; omega
      have w2 : IntKind.i64.wrap (((i + 1 + B : Nat) : Int) + (E : Int)) = ((i + 1 + B + E : Nat) : Int) := by rw [wrap64 (by omega)]; omega
      rw [w1, w2]
      simp only [Int.toNat_natCast]
      rw [seg_take (by omega), seg_drop, seg_take (by omega), seg_drop]
      obtain ⟨n, rfl⟩ : ∃ q, n = q + 3 := ⟨n - 3, by omega⟩
      have dep : ∀ p q : Nat, p ≤ q → q ≤ j → i < p → m_stmt_depth (n + 2) l (p : Int) (q : Int) = some (depO (dF m (seg l p q))) ∧ (∀ z, dF m (seg l p q) = some z → z < m) := by
        intro p q hp hq hi
        have := ih p q n n 0 (by omega) hp (by omega) (by omega) (by omega) (by omega) (by omega)
        rw [m_stmt_depth, m_stmt_walk_stmt_depth_1]
        cases hd : dF m (seg l p q) with
        | some z =>
          rw [hd] at this
          obtain ⟨z1, z2⟩ := this
          rw [show ((0 : Nat) : Int) = 0 from rfl] at z2
          rw [z2]
          refine ⟨?_, fun z' hz => by cases hz; exact z1⟩
          simp [depO]
        | none =>
          rw [hd] at this
          obtain ⟨d, h⟩ := this
          rw [show ((0 : Nat) : Int) = 0 from rfl] at h
          rw [h]; exact ⟨rfl, fun z hz => by cases hz⟩
      obtain ⟨d1, z1⟩ := dep (i + 1) (i + 1 + B) (by omega) (by omega) (by omega)
      obtain ⟨d2, z2⟩ := dep (i + 1 + B) (i + 1 + B + E) (by omega) (by omega) (by omega)
      rw [m_stmt_depth_1, show IntKind.i64.wrap ((i : Int) + 1) = ((i + 1 : Nat) : Int) by rw [wrap64 (by omega)]; omega, d1, Option.bind_some, d2, Option.bind_some, idx_some hx, Option.bind_some, nests_m, Option.bind_some]
      cases hp : dF m (seg l (i + 1) (i + 1 + B)) with
      | none =>
        simp only [depO, Option.bind_none]
        cases blockK x.f_Kind <;> exact ⟨_, rfl⟩
      | some p =>
      have hpm := z1 p hp
      cases hq : dF m (seg l (i + 1 + B) (i + 1 + B + E)) with
      | none =>
        simp only [depO, Option.bind_none, Option.bind_some]
        have : ((p : Int) != -1) = true := by rw [bne_iff_ne]; omega
        cases blockK x.f_Kind <;> simp only [this] <;> exact ⟨_, rfl⟩
      | some q =>
      have hqm := z2 q hq
      simp only [depO, Option.bind_some]
      have e1 : ((p : Int) != -1) = true := by rw [bne_iff_ne]; omega
      have e2 : ((q : Int) != -1) = true := by rw [bne_iff_ne]; omega
      have w3 : IntKind.i64.wrap (1 + (p : Int)) = ((1 + p : Nat) : Int) := by rw [wrap64 (by omega)]; omega
      have w4 : IntKind.i64.wrap (1 + (q : Int)) = ((1 + q : Nat) : Int) := by rw [wrap64 (by omega)]; omega
      rw [e1, e2, w3, w4, max3_m]
      simp only [cond_true]
      have fin : ∀ u : Nat, u ≤ 1000001 → (∀ z, z < m → max u z = max a (max (if blockK x.f_Kind = true then max (1 + p) (1 + q) else 0) z)) → match (dF m (seg l (i + 1 + B + E) j)).bind fun z => some (max (if blockK x.f_Kind = true then max (1 + p) (1 + q) else 0) z) with
          | some z => z < m + 1 ∧ stmt_walk_stmt_depth_1_L0 (n + 3) (m_stmt_depth_1 (n + 3)) l (j : Int) l k ((i + 1 + B + E : Nat) : Int) (u : Int) = some (.out ((max a z : Nat) : Int))
          | none => ∃ d, stmt_walk_stmt_depth_1_L0 (n + 3) (m_stmt_depth_1 (n + 3)) l (j : Int) l k ((i + 1 + B + E : Nat) : Int) (u : Int) = some (.ret (false, d)) := by
        intro u hu hz
        have := ih (i + 1 + B + E) j (n + 3) k u (by omega) (by omega) hj (by omega) (by omega) (by omega) hu
        cases hr : dF m (seg l (i + 1 + B + E) j) with
        | none => rw [hr] at this; exact this
        | some z =>
          rw [hr] at this
          dsimp only at this
          refine ⟨?_, by rw [this.2, hz z this.1]⟩
          have := this.1
          split <;> omega
      rw [show i + 1 + (B + E) = i + 1 + B + E by omega]
      cases hb : blockK x.f_Kind with
      | true =>
        rw [hb] at fin
        exact fin (max a (max (1 + p) (1 + q))) (by omega) (fun z _ => by simp only [if_true]; omega)
      | false =>
        rw [hb] at fin
        exact fin a ha (fun z _ => by simp only [Bool.false_eq_true, if_false]; omega)
    · rw [seg_none (by omega), dF, stmt_walk_stmt_depth_1_L0, bif_not (by omega)]
      exact ⟨by omega, by rw [Nat.max_eq_left (by omega)]⟩
theorem depth_m (l : List St) (hl : l.length < 1000) {n : Nat} (hn : 4000 ≤ n) : m_stmt_Depth n l = some (depO (dF (l.length + 1) l)) := by
  obtain ⟨n, rfl⟩ : ∃ q, n = q + 3 := ⟨n - 3, by omega⟩
  have := dep_m l (by omega) (l.length + 1) 0 l.length n n 0 (by omega) (by omega) (by omega) (by omega) (by omega) (by omega) (by omega)
  have e : seg l 0 l.length = l := by unfold seg; simp
  rw [e] at this
  rw [m_stmt_Depth, m_stmt_depth, m_stmt_walk_stmt_depth_1]
  cases hd : dF (l.length + 1) l with
  | some z =>
    rw [hd] at this
    rw [show (0 : Int) = ((0 : Nat) : Int) from rfl, this.2]; simp [depO]
  | none =>
    rw [hd] at this
    obtain ⟨d, h⟩ := this
    rw [show (0 : Int) = ((0 : Nat) : Int) from rfl, h]; rfl
end Go.Proofs.Ytonhmholnneaaaa
end
section
namespace Go.Proofs.Ytonhmholnneaaaa
set_option linter.unusedVariables false
set_option linter.unusedSimpArgs false
set_option maxRecDepth 10000
def hasF (f : List UInt8) (c : Int) : Bool := f.any fun b => (b.toNat : Int) == c
theorem has_m (n : Nat) (k : S_stmt_kind) (c : Int) (h : k.f_form.length < 100) (hn : 102 < n) : m_stmt_kind_has n k c = some (hasF k.f_form c) := by
  obtain ⟨n, rfl⟩ : ∃ j, n = j + 1 := ⟨n - 1, by omega⟩
  have : stmt_kind_has_L0 n k c n 0 = bif k.f_form.any (fun b => (b.toNat : Int) == c) then some (.ret true) else some (.out ()) := by
    refine any_list k.f_form (fun q i => stmt_kind_has_L0 n k c q (i : Int)) _ (fun q => ?_) (fun q i x hi hx => ?_) (by omega)
    · rw [stmt_kind_has_L0, bif_not (by omega)]
    · rw [stmt_kind_has_L0, bif_decide (by omega), idx_some hx, Option.bind_some, wrap_one i (by omega)]
  rw [m_stmt_kind_has, this]
  unfold hasF
  cases k.f_form.any (fun b => (b.toNat : Int) == c) <;> rfl
def wordK (k : Int) : List UInt8 := wordsL.getD k.toNat []
theorem of_yes (n : Nat) {k : Int} (h : 1 ≤ k ∧ k ≤ 13) : m_stmt_of (n + 2) k = some (⟨wordK k, formK k, blockK k, k == 10⟩, true) := by
  have c : k = 1 ∨ k = 2 ∨ k = 3 ∨ k = 4 ∨ k = 5 ∨ k = 6 ∨ k = 7 ∨ k = 8 ∨ k = 9 ∨ k = 10 ∨ k = 11 ∨ k = 12 ∨ k = 13 := by omega
  rcases c with rfl | rfl | rfl | rfl | rfl | rfl | rfl | rfl | rfl | rfl | rfl | rfl | rfl <;> rfl
theorem of_not (n : Nat) {k : Int} (h : ¬ (1 ≤ k ∧ k ≤ 13)) : m_stmt_of (n + 2) k = some (⟨[], [], false, false⟩, false) := by
  rw [m_stmt_of, show m_stmt_kinds (n + 1) = some kindsL from rfl, Option.bind_some]
  by_cases c : k < 1
  · rw [bif_decide c]
  · rw [bif_not c, bif_decide (show ((kindsL.length : Nat) : Int) ≤ k by have : kindsL.length = 14 := rfl; omega)]
theorem plain_any (n : Nat) (l : List Nd) (hl : l.length < 100000) (hn : l.length + 30 < n) : m_stmt_plain n l = some (plnB l && exprOk l) := by
  obtain ⟨n, rfl⟩ : ∃ j, n = j + 1 := ⟨n - 1, by omega⟩
  have hf : (l.filter isName).length ≤ l.length := List.length_filter_le ..
  rw [m_stmt_plain, names_m n l (by omega) (by omega), Option.bind_some]
  have := allP_loop (F := fun k i => stmt_plain_L0 n (l.filter isName) k i) (l.filter isName) (fun k i h => by rw [stmt_plain_L0, bif_not (by omega)]) (fun k i y hi hy => by rw [stmt_plain_L0, bif_decide (by omega), idx_some hy, Option.bind_some, wrap_one i (by omega)]) (l.filter isName).length 0 n (by omega) (by omega)
  rw [show ((0 : Nat) : Int) = 0 from rfl] at this
  rw [this, Option.bind_some, List.drop_zero, eright_m n l (by omega) (by omega)]
  unfold plnB
  by_cases c : (l.filter isName).all (fun y => y.f_Op == 2) = true
  · rw [if_pos c, c]; rfl
  · rw [if_neg c]; rw [Bool.not_eq_true] at c; rw [c]; rfl
def fN (f : List UInt8) (c : Int) (s : List UInt8) : Bool := if hasF f c then nameB s else s == []
def fL (f : List UInt8) (c : Int) (l : List Nd) : Bool := if hasF f c then plnB l && exprOk l else (l.length : Int) == 0
def fitsB (x : St) : Bool := decide (1 ≤ x.f_Kind ∧ x.f_Kind ≤ 13) && (!decide (x.f_At < 0) && ((!x.f_Ne || hasF (formK x.f_Kind) 113) && (fN (formK x.f_Kind) 114 x.f_Reg && (fN (formK x.f_Kind) 108 x.f_Loc && (fL (formK x.f_Kind) 101 x.f_E && (fL (formK x.f_Kind) 102 x.f_F && ((blockK x.f_Kind || x.f_Body == 0) && (x.f_Kind == 10 || x.f_Else == 0))))))))
theorem fits1_m (n : Nat) (c : Int) (s w f : List UInt8) (b m : Bool) (hf : f.length < 100) (hn : 104 < n) : m_stmt_fits_1 n c s w f b m = some (fN f c s) := by
  obtain ⟨n, rfl⟩ : ∃ j, n = j + 1 := ⟨n - 1, by omega⟩
  rw [m_stmt_fits_1, has_m n _ c hf (by omega)]
  simp only [Option.bind_some]
  have hs : m_scan_Name n s = some (nameB s) := by
    obtain ⟨n, rfl⟩ : ∃ j, n = j + 1 := ⟨n - 1, by omega⟩
    simp only [m_scan_Name]
  rw [hs]
  unfold fN
  cases hasF f c with
  | false => rfl
  | true => simp only [cond_true, Option.bind_some, if_true]; cases nameB s <;> rfl
theorem fits2_m (n : Nat) (c : Int) (l : List Nd) (w f : List UInt8) (b m : Bool) (hf : f.length < 100) (hl : l.length < 100000) (hn : 104 < n) (hn2 : l.length + 40 < n) : m_stmt_fits_2 n c l w f b m = some (fL f c l) := by
  obtain ⟨n, rfl⟩ : ∃ j, n = j + 1 := ⟨n - 1, by omega⟩
  rw [m_stmt_fits_2, has_m n _ c hf (by omega)]
  simp only [Option.bind_some]
  rw [plain_any n l hl (by omega)]
  unfold fL
  cases hasF f c with
  | false => rfl
  | true => simp only [cond_true, Option.bind_some, if_true]; cases (plnB l && exprOk l) <;> rfl
theorem sfits_m (n : Nat) (x : St) (h1 : x.f_E.length < 100000) (h2 : x.f_F.length < 100000) (hn : 110 < n) (hn1 : x.f_E.length + 50 < n) (hn2 : x.f_F.length + 50 < n) : m_stmt_fits n x = some (fitsB x) := by
  obtain ⟨n, rfl⟩ : ∃ j, n = j + 3 := ⟨n - 3, by omega⟩
  have hfl : (formK x.f_Kind).length < 100 := by have := form_len x.f_Kind; omega
  rw [m_stmt_fits]
  by_cases c : 1 ≤ x.f_Kind ∧ x.f_Kind ≤ 13
  · rw [of_yes n c, Option.bind_some]
    unfold fitsB
    rw [decide_eq_true c]
    dsimp only
    rw [cond_true, has_m (n + 2) _ 113 hfl (by omega), fits1_m (n + 2) 114 _ _ _ _ _ hfl (by omega), fits1_m (n + 2) 108 _ _ _ _ _ hfl (by omega), fits2_m (n + 2) 101 _ _ _ _ _ hfl h1 (by omega) (by omega), fits2_m (n + 2) 102 _ _ _ _ _ hfl h2 (by omega) (by omega)]
    simp only [Option.bind_some]
    cases decide (x.f_At < 0) with
    | true => rfl
    | false =>
    cases x.f_Ne with
    | true =>
      simp only [cond_true, cond_false, Bool.not_true, Bool.not_false, Bool.true_and, Bool.false_or]
      cases hasF (formK x.f_Kind) 113 <;> cases fN (formK x.f_Kind) 114 x.f_Reg <;> cases fN (formK x.f_Kind) 108 x.f_Loc <;> cases fL (formK x.f_Kind) 101 x.f_E <;> cases fL (formK x.f_Kind) 102 x.f_F <;> cases blockK x.f_Kind <;> cases x.f_Body == 0 <;> cases x.f_Kind == 10 <;> rfl
    | false =>
      simp only [cond_true, cond_false, Bool.not_true, Bool.not_false, Bool.true_and, Bool.true_or]
      cases fN (formK x.f_Kind) 114 x.f_Reg <;> cases fN (formK x.f_Kind) 108 x.f_Loc <;> cases fL (formK x.f_Kind) 101 x.f_E <;> cases fL (formK x.f_Kind) 102 x.f_F <;> cases blockK x.f_Kind <;> cases x.f_Body == 0 <;> cases x.f_Kind == 10 <;> rfl
  · rw [of_not n c, Option.bind_some]
    unfold fitsB
    rw [decide_eq_false c]; rfl
def LenS (l : List St) : Prop := ∀ x ∈ l, x.f_E.length ≤ 250 ∧ x.f_F.length ≤ 250
def rightB (l : List St) : Bool := match dF (l.length + 1) l with
  | some z => !decide (30 < z) && (!decide (200 < l.length) && l.all fitsB)
  | none => false
theorem sright_m (n : Nat) (l : List St) (hl : l.length < 1000) (hx : LenS l) (hn : 5000 < n) : m_stmt_Right n l = some (rightB l) := by
  obtain ⟨n, rfl⟩ : ∃ j, n = j + 1 := ⟨n - 1, by omega⟩
  rw [m_stmt_Right, depth_m l hl (by omega), Option.bind_some]
  unfold rightB
  have hL : stmt_Right_L0 n l n 0 = bif l.all fitsB then some (.out ()) else some (.ret false) := by
    refine all_list l (fun q i => stmt_Right_L0 n l q (i : Int)) _ (fun q => ?_) (fun q i x hi hx' => ?_) (by omega)
    · rw [stmt_Right_L0, bif_not (by omega)]
    · have := hx x (List.mem_of_getElem? hx')
      rw [stmt_Right_L0, bif_decide (by omega), idx_some hx', Option.bind_some, sfits_m n x (by omega) (by omega) (by omega) (by omega) (by omega), Option.bind_some, wrap_one i (by omega)]
  rw [hL]
  cases dF (l.length + 1) l with
  | none => rfl
  | some z =>
    show (bif ((z : Int) == -1) then some false else (bif decide (30 < (z : Int)) then some false else (bif decide (200 < ((l.length : Nat) : Int)) then some false else _))) = some (!decide (30 < z) && (!decide (200 < l.length) && l.all fitsB))
    rw [show ((z : Int) == -1) = false by rw [beq_eq_false_iff_ne]; omega, cond_false]
    by_cases c1 : 30 < z
    · rw [bif_decide (by omega), decide_eq_true c1]; rfl
    · rw [bif_not (by omega), decide_eq_false c1]
      by_cases c2 : 200 < l.length
      · rw [bif_decide (by omega), decide_eq_true c2]; rfl
      · rw [bif_not (by omega), decide_eq_false c2]
        cases l.all fitsB <;> rfl
theorem right_tree {l : List St} (h : rightB l = true) : ∃ F : SF, F.wf ∧ F.flat = l ∧ F.dep ≤ 30 ∧ l.length ≤ 200 ∧ ∀ x ∈ l, fitsB x = true := by
  unfold rightB at h
  cases hd : dF (l.length + 1) l with
  | none => rw [hd] at h; cases h
  | some z =>
    rw [hd] at h
    simp only [Bool.and_eq_true, Bool.not_eq_true', decide_eq_false_iff_not, List.all_eq_true] at h
    obtain ⟨F, f1, f2, f3⟩ := of_dF _ _ _ hd
    exact ⟨F, f1, f2, by omega, by omega, h.2.2⟩
theorem tree_right {F : SF} (h : F.wf) (hd : F.dep ≤ 30) (hl : F.flat.length ≤ 200) (hx : ∀ x ∈ F.flat, fitsB x = true) : rightB F.flat = true := by
  unfold rightB
  rw [dF_flat F _ h (by omega)]
  simp only [Bool.and_eq_true, Bool.not_eq_true', decide_eq_false_iff_not, List.all_eq_true]
  exact ⟨by omega, by omega, hx⟩
def SF.app : SF → SF → SF
  | .nil, G => G
  | .cons x a b r, G => .cons x a b (r.app G)
end Go.Proofs.Ytonhmholnneaaaa
end
section
namespace Go.Proofs.Ytonhmholnneaaaa
set_option linter.unusedVariables false
set_option linter.unusedSimpArgs false
set_option maxRecDepth 10000
theorem nodesOk_of {l : List Nd} (h : l.all nodeOk = true) : NodesOk l := by
  have nl : ∀ {w : List UInt8}, nameB w = true → w.length ≤ 16 := fun h => by
    obtain ⟨_, _, _, _, _, h⟩ := word_of_name h; exact h
  intro x hx
  have hk := List.all_eq_true.1 h x hx
  refine ⟨hk, ?_⟩
  by_cases c1 : x.f_Op = 1
  · obtain ⟨a, b⟩ := bareR_leaf1 hk c1
    rw [a, b]; simp
  by_cases c2 : x.f_Op = 2 ∨ x.f_Op = 3
  · obtain ⟨a, b⟩ := bareR_leaf2 hk c2
    obtain ⟨n1, _⟩ := leaf_names hk (by omega) c1
    have := nl n1
    rw [b]; simp; omega
  by_cases c4 : x.f_Op = 4
  · obtain ⟨n1, n2⟩ := leaf_names hk (by omega) c1
    have := nl n1; have := nl (n2 c4); omega
  · simp only [nodeOk, Bool.and_eq_true] at hk
    rw [if_neg c1, if_neg c2, if_neg c4] at hk
    simp only [Bool.and_eq_true, beq_iff_eq] at hk
    rw [hk.2.2.1, hk.2.2.2]; simp
def showE (l : List Nd) : List UInt8 := (m_expr_Show 2000 l).getD []
theorem showE_ok {l : List Nd} (h : exprOk l = true) : ∃ t : Tr, t.wf ∧ t.flat = l ∧ l.length ≤ 200 ∧ t.dep ≤ 30 ∧ NodesOk t.flat ∧ showE l = showT t false ∧ (showE l).length ≤ 8000 ∧ ∀ n, 1000 < n → m_expr_Show n l = some (showE l) := by
  obtain ⟨t, t1, t2, t3, t4, t5, t6, t7⟩ := exprOk_tree h
  subst t2
  have hno := nodesOk_of t6
  have hs := fun n (hn : 1000 < n) => show_m t1 hno t3 h (n := n) hn
  have e : showE t.flat = showT t false := by unfold showE; rw [hs 2000 (by omega)]; rfl
  have := showT_len16 t false t1 hno
  exact ⟨t, t1, rfl, t3, t4, hno, e, by rw [e]; omega, fun n hn => by rw [hs n hn, e]⟩
theorem showE_nil (n : Nat) (hn : 1000 < n) : m_expr_Show n [] = some (showE []) := by
  have h : ∀ n, 1000 < n → m_expr_Show n [] = some [] := fun n hn => by
    obtain ⟨n, rfl⟩ : ∃ j, n = j + 1 := ⟨n - 1, by omega⟩
    rw [m_expr_Show, eright_m n [] (by simp) (by simp; omega)]; rfl
  rw [h n hn]; unfold showE; rw [h 2000 (by omega)]; rfl
def partT (x : St) (c : UInt8) : List UInt8 :=
  if c.toNat = 114 then 32 :: x.f_Reg else if c.toNat = 108 then 32 :: x.f_Loc else if c.toNat = 101 then 32 :: showE x.f_E else if c.toNat = 102 then 32 :: showE x.f_F
  else if c.toNat = 113 then (if x.f_Ne then [32, 33, 61] else [32, 61, 61]) else if c.toNat = 61 then [32, 61] else [c]
def headT (x : St) : List UInt8 := wordK x.f_Kind ++ (formK x.f_Kind).flatMap (partT x)
def chars : List UInt8 := [114, 108, 101, 102, 113, 61, 59, 44]
theorem form_chars (k : Int) : ∀ c ∈ formK k, c ∈ chars := by
  unfold formK; repeat' split
  all_goals decide
structure PartOk (x : St) : Prop where
  e : ∀ n, 1000 < n → m_expr_Show n x.f_E = some (showE x.f_E)
  f : ∀ n, 1000 < n → m_expr_Show n x.f_F = some (showE x.f_F)
  le : (showE x.f_E).length ≤ 8000
  lf : (showE x.f_F).length ≤ 8000
  lr : x.f_Reg.length ≤ 16
  ll : x.f_Loc.length ≤ 16
theorem fits_part {x : St} (h : fitsB x = true) : PartOk x := by
  have nl : ∀ {w : List UInt8}, nameB w = true → w.length ≤ 16 := fun h => by
    obtain ⟨_, _, _, _, _, h⟩ := word_of_name h; exact h
  simp only [fitsB, Bool.and_eq_true] at h
  obtain ⟨_, _, _, h1, h2, h3, h4, _⟩ := h
  have hN : ∀ {c : Int} {s : List UInt8}, fN (formK x.f_Kind) c s = true → s.length ≤ 16 := by
    intro c s hs
    unfold fN at hs
    split at hs
    · exact nl hs
    · rw [beq_iff_eq] at hs; rw [hs]; simp
  have hL : ∀ {c : Int} {l : List Nd}, fL (formK x.f_Kind) c l = true → (∀ n, 1000 < n → m_expr_Show n l = some (showE l)) ∧ (showE l).length ≤ 8000 := by
    intro c l hs
    unfold fL at hs
    split at hs
    · rw [Bool.and_eq_true] at hs
      obtain ⟨t, _, _, _, _, _, _, g1, g2⟩ := showE_ok hs.2
      exact ⟨g2, g1⟩
    · rw [beq_iff_eq] at hs
      obtain rfl : l = [] := List.length_eq_zero_iff.1 (by omega)
      refine ⟨fun n hn => showE_nil n hn, ?_⟩
      have := showE_nil 2000 (by omega)
      rw [show m_expr_Show 2000 [] = some [] by
        rw [m_expr_Show, eright_m 1999 [] (by simp) (by simp)]; rfl] at this
      rw [← Option.some.inj this]; simp
  exact ⟨(hL h3).1, (hL h4).1, (hL h3).2, (hL h4).2, hN h1, hN h2⟩
theorem part_len {x : St} (h : PartOk x) (c : UInt8) : (partT x c).length ≤ 8001 := by
  have := h.le; have := h.lf; have := h.lr; have := h.ll
  unfold partT
  repeat' split
  all_goals simp
  all_goals omega
theorem parts_len {x : St} (h : PartOk x) : ∀ cs : List UInt8, (cs.flatMap (partT x)).length ≤ 8001 * cs.length
  | [] => by simp
  | c :: cs => by
    have := part_len h c; have := parts_len h cs
    rw [List.flatMap_cons, List.length_append, List.length_cons]; omega
theorem word_len (k : Int) : (wordK k).length ≤ 5 := by
  have : ∀ w ∈ wordsL, w.length ≤ 5 := by decide
  unfold wordK
  rw [List.getD_eq_getElem?_getD]
  cases h : wordsL[k.toNat]? with
  | none => simp
  | some w => exact this w (List.mem_of_getElem? h)
theorem head_len {x : St} (h : PartOk x) : (headT x).length ≤ 80100 := by
  have := parts_len h (formK x.f_Kind); have := form_len x.f_Kind; have := word_len x.f_Kind
  rw [headT, List.length_append]; omega
theorem head_L {x : St} (h : PartOk x) {n : Nat} (hn : 1000 < n) (y : S_stmt_kind × Bool) : ∀ (cs pre : List UInt8) (k : Nat) (s : List UInt8), y.1.f_form = pre ++ cs → (∀ c ∈ cs, c ∈ chars) → (pre ++ cs).length < 100 → cs.length < k → s.length + 9000 * cs.length < 100000000 →
    stmt_head_L0 n x y k s (pre.length : Int) x.f_Ne = some (.out (s ++ cs.flatMap (partT x), x.f_Ne)) := by
  intro cs
  induction cs with
  | nil =>
    intro pre k s hf _ hl hk hs
    obtain ⟨k, rfl⟩ : ∃ j, k = j + 1 := ⟨k - 1, by omega⟩
    rw [stmt_head_L0, hf, bif_not (by simp)]; simp
  | cons c cs ih =>
    intro pre k s hf hc hl hk hs
    obtain ⟨k, rfl⟩ : ∃ j, k = j + 1 := ⟨k - 1, by omega⟩
    have hle := h.le; have hlf := h.lf; have hlr := h.lr; have hll := h.ll
    rw [List.length_cons] at hs hk
    have hget : idx (pre ++ c :: cs) (pre.length : Int) = some c := idx_pre pre cs c
    have hlt : (pre.length : Int) < (((pre ++ c :: cs).length : Nat) : Int) := by simp; omega
    have next : ∀ u : List UInt8, u = partT x c → stmt_head_L0 n x y k (s ++ u) (IntKind.i64.wrap ((pre.length : Int) + 1)) x.f_Ne = some (.out (s ++ (c :: cs).flatMap (partT x), x.f_Ne)) := by
      intro u hu
      have hu2 := part_len h c
      have := ih (pre ++ [c]) k (s ++ u) (by rw [hf]; simp) (fun d hd => hc d (List.mem_cons_of_mem _ hd)) (by simpa using hl) (by omega) (by rw [List.length_append, hu]; omega)
      rw [wrap_one pre.length (by simp at hl; omega)]
      rw [List.length_append, List.length_singleton] at this
      rw [this, List.flatMap_cons, hu, List.append_assoc]
    have hcc := hc c (List.mem_cons_self ..)
    rw [stmt_head_L0, hf, bif_decide hlt, hget, Option.bind_some, h.e n hn, h.f n hn]
    simp only [Option.bind_some]
    have b1 : (([32] : List UInt8)).length + x.f_Reg.length ≤ 140737488355328 := by simp; omega
    have b2 : s.length + (([32] : List UInt8) ++ x.f_Reg).length ≤ 140737488355328 := by simp; omega
    have b3 : (([32] : List UInt8)).length + x.f_Loc.length ≤ 140737488355328 := by simp; omega
    have b4 : s.length + (([32] : List UInt8) ++ x.f_Loc).length ≤ 140737488355328 := by simp; omega
    have b5 : (([32] : List UInt8)).length + (showE x.f_E).length ≤ 140737488355328 := by simp; omega
    have b6 : s.length + (([32] : List UInt8) ++ showE x.f_E).length ≤ 140737488355328 := by simp; omega
    have b7 : (([32] : List UInt8)).length + (showE x.f_F).length ≤ 140737488355328 := by simp; omega
    have b8 : s.length + (([32] : List UInt8) ++ showE x.f_F).length ≤ 140737488355328 := by simp; omega
    have b9 : ∀ u : List UInt8, u.length ≤ 5 → s.length + u.length ≤ 140737488355328 := fun u hu => by omega
    simp only [chars, List.mem_cons, List.not_mem_nil, or_false] at hcc
    rcases hcc with rfl | rfl | rfl | rfl | rfl | rfl | rfl | rfl
    · rw [bif_decide b1, bif_decide b2]; exact next _ rfl
    · rw [bif_decide b3, bif_decide b4]; exact next _ rfl
    · rw [bif_decide b5, bif_decide b6]; exact next _ rfl
    · rw [bif_decide b7, bif_decide b8]; exact next _ rfl
    · rw [bif_decide (b9 [32, 33, 61] (by decide)), bif_decide (b9 [32, 61, 61] (by decide))]
      have hp : partT x 113 = if x.f_Ne then [32, 33, 61] else [32, 61, 61] := rfl
      cases hne : x.f_Ne with
      | true =>
        rw [hne, if_pos rfl] at hp
        have := next _ hp.symm
        rw [hne] at this; exact this
      | false =>
        rw [hne, if_neg (by simp)] at hp
        have := next _ hp.symm
        rw [hne] at this; exact this
    · rw [bif_decide (b9 [32, 61] (by decide))]; exact next _ rfl
    · rw [bif_decide (b9 [UInt8.ofNat (IntKind.i32.wrap (((59 : UInt8).toNat : Nat) : Int)).toNat] (by simp))]; exact next _ rfl
    · rw [bif_decide (b9 [UInt8.ofNat (IntKind.i32.wrap (((44 : UInt8).toNat : Nat) : Int)).toNat] (by simp))]; exact next _ rfl
theorem head_m {x : St} (h : fitsB x = true) {n : Nat} (hn : 1200 < n) : m_stmt_head n x = some (headT x) := by
  obtain ⟨n, rfl⟩ : ∃ j, n = j + 3 := ⟨n - 3, by omega⟩
  have hp := fits_part h
  have hk : 1 ≤ x.f_Kind ∧ x.f_Kind ≤ 13 := by
    simp only [fitsB, Bool.and_eq_true, decide_eq_true_eq] at h; exact h.1
  have hfl := form_len x.f_Kind; have hwl := word_len x.f_Kind
  have := head_L hp (n := n + 2) (by omega) (⟨wordK x.f_Kind, formK x.f_Kind, blockK x.f_Kind, x.f_Kind == 10⟩, true) (formK x.f_Kind) [] (n + 2) (wordK x.f_Kind) rfl (form_chars _) (by simp; omega) (by omega) (by omega)
  rw [m_stmt_head, of_yes n hk, Option.bind_some]
  have this : stmt_head_L0 (n + 2) x (⟨wordK x.f_Kind, formK x.f_Kind, blockK x.f_Kind, x.f_Kind == 10⟩, true) (n + 2) (wordK x.f_Kind) 0 x.f_Ne = _ := this
  dsimp only
  rw [this]; rfl
def padT (d : Nat) : List UInt8 := List.replicate (2 * d) 32
theorem pad_L (n d : Nat) (hd : d < 100000) : ∀ (m i k : Nat) (s : List UInt8), d - i ≤ m → m < k → i ≤ d → s.length ≤ 2 * i → stmt_pad_L0 n (d : Int) k s (i : Int) = some (.out (s ++ padT (d - i))) := by
  intro m
  induction m with
  | zero =>
    intro i k s h hk hi hs
    obtain ⟨k, rfl⟩ : ∃ j, k = j + 1 := ⟨k - 1, by omega⟩
    rw [stmt_pad_L0, bif_not (by omega), show d - i = 0 by omega]; simp [padT]
  | succ m ih =>
    intro i k s h hk hi hs
    obtain ⟨k, rfl⟩ : ∃ j, k = j + 1 := ⟨k - 1, by omega⟩
    by_cases c : i < d
    · rw [stmt_pad_L0, bif_decide (by omega), bif_decide (show s.length + ([32, 32] : List UInt8).length ≤ 140737488355328 by simp; omega), wrap_one i (by omega), ih (i + 1) k _ (by omega) (by omega) (by omega) (by simp; omega)]
      obtain ⟨q, hq⟩ : ∃ q, d - i = q + 1 := ⟨d - i - 1, by omega⟩
      rw [hq, show d - (i + 1) = q by omega, List.append_assoc]
      unfold padT
      rw [show 2 * (q + 1) = 2 * q + 1 + 1 by omega, List.replicate_succ, List.replicate_succ]; rfl
    · rw [stmt_pad_L0, bif_not (by omega), show d - i = 0 by omega]; simp [padT]
theorem pad_m (n d : Nat) (hd : d < 100000) (hn : d + 2 < n) : m_stmt_pad n (d : Int) = some (padT d) := by
  obtain ⟨n, rfl⟩ : ∃ j, n = j + 1 := ⟨n - 1, by omega⟩
  have := pad_L n d hd d 0 n [] (by omega) (by omega) (by omega) (by simp)
  rw [m_stmt_pad, show (0 : Int) = ((0 : Nat) : Int) from rfl, this]; rfl
def showS : SF → Nat → List UInt8
  | .nil, _ => []
  | .cons x a b r, d => (padT d ++ headT x) ++ ((if blockK x.f_Kind then (([32, 123, 10] ++ showS a (d + 1)) ++ padT d) ++ ((if b.flat = [] then [] else ([125, 32, 101, 108, 115, 101, 32, 123, 10] ++ showS b (d + 1)) ++ padT d) ++ [125]) else []) ++ ([10] ++ showS r d))
theorem showS_len : ∀ (F : SF) (d : Nat), (∀ x ∈ F.flat, fitsB x = true) → d + F.flat.length ≤ 1000 → (showS F d).length ≤ 100000 * F.flat.length
  | .nil, d, _, _ => by simp [showS]
  | .cons x a b r, d, h, hd => by
    rw [SF.flat] at h hd ⊢
    simp only [List.length_cons, List.length_append] at hd ⊢
    have h1 := head_len (fits_part (h x (List.mem_cons_self ..)))
    have ha := showS_len a (d + 1) (fun y hy => h y (by simp [hy])) (by omega)
    have hb := showS_len b (d + 1) (fun y hy => h y (by simp [hy])) (by omega)
    have hr := showS_len r d (fun y hy => h y (by simp [hy])) (by omega)
    have hp : (padT d).length ≤ 2000 := by simp [padT]; omega
    rw [showS]
    cases blockK x.f_Kind with
    | false => simp; omega
    | true =>
      by_cases c : b.flat = []
      · simp [c]; omega
      · simp [c]; omega
theorem show_L : ∀ (F : SF) (pre post : List St) (n k d : Nat) (s : List UInt8), F.wf → (∀ x ∈ F.flat, fitsB x = true) → (pre ++ (F.flat ++ post)).length < 1000 → 3 * F.flat.length + 1300 ≤ n → F.flat.length < k → d + F.flat.length ≤ 1000 → s.length + 100000 * F.flat.length ≤ 1000000000 →
    stmt_walk_stmt_show_1_L0 n (m_stmt_show_1 n) (pre ++ (F.flat ++ post)) ((pre.length + F.flat.length : Nat) : Int) (d : Int) (pre ++ (F.flat ++ post)) k (pre.length : Int) s = some (.out (s ++ showS F d))
  | .nil, pre, post, n, k, d, s, _, _, _, _, hk, _, _ => by
    obtain ⟨k, rfl⟩ : ∃ j, k = j + 1 := ⟨k - 1, by omega⟩
    rw [stmt_walk_stmt_show_1_L0, bif_not (by simp [SF.flat])]; simp [showS]
  | .cons x a b r, pre, post, n, k, d, s, hw, hx, hl, hn, hk, hd, hs => by
    obtain ⟨k, rfl⟩ : ∃ j, k = j + 1 := ⟨k - 1, by omega⟩
    obtain ⟨n, rfl⟩ : ∃ j, n = j + 3 := ⟨n - 3, by omega⟩
    obtain ⟨w1, w2, wa, wb, wr⟩ := hw
    have hfx := hx x (by simp [SF.flat])
    have hxa : ∀ y ∈ a.flat, fitsB y = true := fun y hy => hx y (by simp [SF.flat, hy])
    have hxb : ∀ y ∈ b.flat, fitsB y = true := fun y hy => hx y (by simp [SF.flat, hy])
    have hxr : ∀ y ∈ r.flat, fitsB y = true := fun y hy => hx y (by simp [SF.flat, hy])
    have hF : (SF.cons x a b r).flat.length = 1 + a.flat.length + b.flat.length + r.flat.length := by simp [SF.flat]; omega
    have hlen : (pre ++ ((SF.cons x a b r).flat ++ post)).length = pre.length + (1 + a.flat.length + b.flat.length + r.flat.length + post.length) := by simp only [List.length_append, hF]
    rw [hlen] at hl
    rw [hF] at hn hk hd hs
    have hget : (pre ++ ((SF.cons x a b r).flat ++ post))[pre.length]? = some x := by
      rw [List.getElem?_append_right (Nat.le_refl _), Nat.sub_self]; rfl
    have la := showS_len a (d + 1) hxa (by omega)
    have lb := showS_len b (d + 1) hxb (by omega)
    have lh := head_len (fits_part hfx)
    have lp : (padT d).length ≤ 2000 := by simp [padT]; omega
    have ea : pre ++ ((SF.cons x a b r).flat ++ post) = (pre ++ [x]) ++ (a.flat ++ (b.flat ++ (r.flat ++ post))) := by simp [SF.flat]
    have eb : pre ++ ((SF.cons x a b r).flat ++ post) = (pre ++ x :: a.flat) ++ (b.flat ++ (r.flat ++ post)) := by simp [SF.flat]
    have er : pre ++ ((SF.cons x a b r).flat ++ post) = (pre ++ x :: (a.flat ++ b.flat)) ++ (r.flat ++ post) := by simp [SF.flat]
    have ga : m_stmt_show (n + 2) (pre ++ ((SF.cons x a b r).flat ++ post)) ((pre.length + 1 : Nat) : Int) ((pre.length + 1 + a.flat.length : Nat) : Int) ((d + 1 : Nat) : Int) = some (showS a (d + 1)) := by
      have := show_L a (pre ++ [x]) (b.flat ++ (r.flat ++ post)) n n (d + 1) [] wa hxa (by rw [← ea, hlen]; exact hl) (by omega) (by omega) (by omega) (by simp; omega)
      rw [← ea] at this
      simp only [List.length_append, List.length_singleton] at this
      rw [m_stmt_show, m_stmt_walk_stmt_show_1, this]; rfl
    have gb : m_stmt_show (n + 2) (pre ++ ((SF.cons x a b r).flat ++ post)) ((pre.length + 1 + a.flat.length : Nat) : Int) ((pre.length + 1 + a.flat.length + b.flat.length : Nat) : Int) ((d + 1 : Nat) : Int) = some (showS b (d + 1)) := by
      have := show_L b (pre ++ x :: a.flat) (r.flat ++ post) n n (d + 1) [] wb hxb (by rw [← eb, hlen]; exact hl) (by omega) (by omega) (by omega) (by simp; omega)
      rw [← eb] at this
      simp only [List.length_append, List.length_cons] at this
      rw [show pre.length + (a.flat.length + 1) = pre.length + 1 + a.flat.length by omega] at this
      rw [m_stmt_show, m_stmt_walk_stmt_show_1, this]; rfl
    have gr : ∀ u : List UInt8, u.length + 100000 * r.flat.length ≤ 1000000000 → stmt_walk_stmt_show_1_L0 (n + 3) (m_stmt_show_1 (n + 3)) (pre ++ ((SF.cons x a b r).flat ++ post)) ((pre.length + (SF.cons x a b r).flat.length : Nat) : Int) (d : Int) (pre ++ ((SF.cons x a b r).flat ++ post)) k ((pre.length + 1 + a.flat.length + b.flat.length : Nat) : Int) u = some (.out (u ++ showS r d)) := by
      intro u hu
      have := show_L r (pre ++ x :: (a.flat ++ b.flat)) post (n + 3) k d u wr hxr (by rw [← er, hlen]; exact hl) (by omega) (by omega) (by omega) hu
      rw [← er] at this
      simp only [List.length_append, List.length_cons] at this
      rw [show pre.length + (a.flat.length + b.flat.length + 1) = pre.length + 1 + a.flat.length + b.flat.length by omega] at this
      rw [show pre.length + (SF.cons x a b r).flat.length = pre.length + 1 + a.flat.length + b.flat.length + r.flat.length by rw [hF]; omega]
      exact this
    have v1 : IntKind.i64.wrap ((pre.length : Int) + 1) = ((pre.length + 1 : Nat) : Int) := by rw [wrap64 (by omega)]; omega
    have v2 : IntKind.i64.wrap (((pre.length + 1 : Nat) : Int) + ((a.flat.length : Nat) : Int)) = ((pre.length + 1 + a.flat.length : Nat) : Int) := by rw [wrap64 (by omega)]; omega
    have v3 : IntKind.i64.wrap (((pre.length + 1 + a.flat.length : Nat) : Int) + ((b.flat.length : Nat) : Int)) = ((pre.length + 1 + a.flat.length + b.flat.length : Nat) : Int) := by rw [wrap64 (by omega)]; omega
    have v4 : IntKind.i64.wrap ((d : Int) + 1) = ((d + 1 : Nat) : Int) := by rw [wrap64 (by omega)]; omega
    have v5 : IntKind.i64.wrap (IntKind.i64.wrap (((pre.length + (SF.cons x a b r).flat.length : Nat) : Int) - (pre.length : Int)) - 1) = ((a.flat.length + b.flat.length + r.flat.length : Nat) : Int) := by
      rw [hF, wrap64 (show -9223372036854775808 ≤ ((pre.length + (1 + a.flat.length + b.flat.length + r.flat.length) : Nat) : Int) - (pre.length : Int) ∧ _ by omega), wrap64 (by omega)]; omega
    have v6 : IntKind.i64.wrap (((a.flat.length + b.flat.length + r.flat.length : Nat) : Int) - ((a.flat.length : Nat) : Int)) = ((b.flat.length + r.flat.length : Nat) : Int) := by rw [wrap64 (by omega)]; omega
    rw [stmt_walk_stmt_show_1_L0, bif_decide (by rw [hF]; omega), idx_some hget, Option.bind_some, w1, w2, bif_not (by omega), bif_not (by omega), v5, bif_not (by omega), v6, bif_not (by omega), v1, v2, v3]
    rw [m_stmt_show_1, pad_m (n + 2) d (by omega) (by omega), Option.bind_some, idx_some hget, Option.bind_some, head_m hfx (by omega), Option.bind_some, Option.bind_some, nests_m, Option.bind_some, v1, v4, ga]
    simp only [Option.bind_some]
    rw [gb]
    simp only [Option.bind_some, List.length_append, List.length_cons, List.length_nil]
    rw [bif_decide (by omega), bif_decide (by omega)]
    rw [showS]
    cases hb : blockK x.f_Kind with
    | false =>
      simp only [cond_false, Bool.false_eq_true, if_false]
      rw [bif_decide (by omega), Option.bind_some]
      dsimp only
      rw [cond_true, gr _ (by simp; omega)]
      simp
    | true =>
      simp only [cond_true, if_true]
      rw [bif_decide (by omega), bif_decide (by omega), bif_decide (by omega)]
      by_cases c : b.flat = []
      · have c' : b.flat.length = 0 := by rw [c]; rfl
        rw [bif_not (by omega), bif_decide (by omega), bif_decide (by omega), Option.bind_some]
        dsimp only
        rw [cond_true, gr _ (by simp; omega), if_pos c]
        simp
      · have c' : b.flat.length ≠ 0 := fun e => c (List.length_eq_zero_iff.1 e)
        rw [bif_decide (by omega), bif_decide (by omega), bif_decide (by omega), bif_decide (by omega), bif_decide (by omega), bif_decide (by omega), Option.bind_some]
        dsimp only
        rw [cond_true, gr _ (by simp; omega), if_neg c]
        simp
theorem sshow_m {F : SF} (hw : F.wf) (hr : rightB F.flat = true) (d n : Nat) (hd : d ≤ 100) (hn : 6000 < n) : m_stmt_Show n F.flat (d : Int) = some (showS F d) := by
  obtain ⟨n, rfl⟩ : ∃ j, n = j + 3 := ⟨n - 3, by omega⟩
  obtain ⟨_, _, _, _, hl, hx⟩ := right_tree hr
  have hlen : LenS F.flat := by
    intro x hx'
    have h := hx x hx'
    simp only [fitsB, Bool.and_eq_true] at h
    obtain ⟨_, _, _, _, _, h3, h4, _⟩ := h
    have hL : ∀ {c : Int} {l : List Nd}, fL (formK x.f_Kind) c l = true → l.length ≤ 250 := by
      intro c l hs
      unfold fL at hs
      split at hs
      · rw [Bool.and_eq_true] at hs
        obtain ⟨t, _, _, t3, _⟩ := exprOk_tree hs.2
        omega
      · rw [beq_iff_eq] at hs; omega
    exact ⟨hL h3, hL h4⟩
  have := show_L F [] [] n n d [] hw hx (by simp; omega) (by omega) (by omega) (by omega) (by simp; omega)
  simp only [List.nil_append, List.append_nil, List.length_nil, Nat.zero_add] at this
  rw [m_stmt_Show, bif_not (by omega), bif_not (by omega), sright_m (n + 2) F.flat (by omega) hlen (by omega), Option.bind_some, hr, cond_true, m_stmt_show, m_stmt_walk_stmt_show_1, show (0 : Int) = ((0 : Nat) : Int) from rfl, this]
  rfl
end Go.Proofs.Ytonhmholnneaaaa
end
section
namespace Go.Proofs.Ytonhmholnneaaaa
set_option linter.unusedVariables false
set_option linter.unusedSimpArgs false
set_option maxRecDepth 10000
open Classical in
noncomputable def trE (l : List Nd) : Tr := if h : ∃ t : Tr, t.wf ∧ t.flat = l then h.choose else .leaf ⟨0, 0, [], [], 0⟩
theorem trE_ok {l : List Nd} (h : exprOk l = true) : (trE l).wf ∧ (trE l).flat = l ∧ l.length ≤ 200 ∧ (trE l).dep ≤ 30 ∧ NodesOk l ∧ showE l = showT (trE l) false := by
  obtain ⟨t, t1, t2, t3, t4, t5, t6, t7⟩ := exprOk_tree h
  have hx : ∃ t : Tr, t.wf ∧ t.flat = l := ⟨t, t1, t2⟩
  have e : trE l = hx.choose := by unfold trE; rw [dif_pos hx]
  have hs := hx.choose_spec
  rw [← e] at hs
  generalize trE l = u at *
  obtain ⟨u1, u2⟩ := hs
  have hno := nodesOk_of t6
  have hd : u.dep ≤ 30 := by
    have := depF_tr u [] 0 [] u1 (by omega)
    rw [List.append_nil, u2] at this
    have e : (depF l (0, [])).1 = (u.dep : Int) := by rw [this]; simp [depF]
    omega
  refine ⟨u1, u2, t3, hd, hno, ?_⟩
  subst u2
  unfold showE
  rw [show_m u1 hno t3 h (n := 2000) (by omega)]; rfl
noncomputable def tokE (l : List Nd) : List Ck := tokT (trE l) false
theorem seg_expr {l : List Nd} (h : exprOk l = true) : Seg OkE (showE l) (tokE l) := by
  obtain ⟨h1, h2, _, _, h3, h4⟩ := trE_ok h
  rw [h4]; exact seg_show _ false h1 (by rw [h2]; exact h3)
theorem seg_nil : Seg (fun _ => True) [] [] := fun rest p acc _ => ⟨[], rfl, fun f f' hf hf' => by
  simp only [List.nil_append, List.length_nil, Nat.add_zero, List.append_nil] at hf ⊢
  exact lexFrom_fuel f f' _ _ _ hf hf'⟩
theorem seg_bl {c : UInt8} (hc : blankB c.toNat = true) : Seg (fun _ => True) [c] [] := by
  intro rest p acc _
  refine ⟨[], rfl, fun f f' hf hf' => ?_⟩
  obtain ⟨f, rfl⟩ : ∃ j, f = j + 1 := ⟨f - 1, by omega⟩
  have hg : gapS false (c :: rest) = 1 + gapS false rest := gapS_blank hc
  rw [List.singleton_append] at hf ⊢
  have e : lexFrom (f + 1) (c :: rest) p acc = lexFrom (f + 1) rest (p + 1) acc := by
    rw [lexFrom, lexFrom, hg]
    have : (c :: rest).drop (1 + gapS false rest) = rest.drop (gapS false rest) := by rw [Nat.add_comm, List.drop_succ_cons]
    rw [this]
    have e3 : p + (1 + gapS false rest) = p + 1 + gapS false rest := by omega
    rw [e3]
  rw [e, List.append_nil]
  exact lexFrom_fuel _ _ _ _ _ (by simp at hf; omega) hf'
theorem seg_pad : ∀ d : Nat, Seg (fun _ => True) (padT d) [] := by
  have : ∀ m : Nat, Seg (fun _ => True) (List.replicate m (32 : UInt8)) [] := by
    intro m
    induction m with
    | zero => exact seg_nil
    | succ m ih => exact seg_append (seg_bl (c := 32) (by decide)) ih (fun _ _ => trivial)
  exact fun d => this _
theorem one_word {c : UInt8} {t r : List UInt8} (h1 : letterB c.toNat = true) (h2 : ∀ d ∈ c :: t, wordB d.toNat = true) (h3 : (c :: t).length ≤ 16) (hr : EndW r) : oneL (c :: t ++ r) = .tok 1 (c :: t).length 0 := by
  have hrun : runLen wordB (c :: t ++ r) = (c :: t).length := runLen_app h2 hr
  rw [List.cons_append] at hrun ⊢
  show (if letterB c.toNat then _ else _) = _
  rw [if_pos h1, hrun, if_neg (by omega)]
theorem seg_word {w : List UInt8} (h : ∃ c t, w = c :: t ∧ letterB c.toNat = true ∧ (∀ d ∈ c :: t, wordB d.toNat = true) ∧ (c :: t).length ≤ 16) : Seg EndW w [(1, w, 0)] := by
  obtain ⟨c, t, rfl, h1, h2, h3⟩ := h
  exact seg_tok (by simp) (fun d u e => by
    obtain ⟨rfl, rfl⟩ := List.cons.inj e
    exact letter_not_blank h1) (fun r hr => one_word h1 h2 h3 hr)
theorem word_ok {k : Int} (h : 1 ≤ k ∧ k ≤ 13) : ∃ c t, wordK k = c :: t ∧ letterB c.toNat = true ∧ (∀ d ∈ c :: t, wordB d.toNat = true) ∧ (c :: t).length ≤ 16 := by
  have c : k = 1 ∨ k = 2 ∨ k = 3 ∨ k = 4 ∨ k = 5 ∨ k = 6 ∨ k = 7 ∨ k = 8 ∨ k = 9 ∨ k = 10 ∨ k = 11 ∨ k = 12 ∨ k = 13 := by omega
  rcases c with rfl | rfl | rfl | rfl | rfl | rfl | rfl | rfl | rfl | rfl | rfl | rfl | rfl <;> exact ⟨_, _, rfl, by decide, by decide, by decide⟩
theorem seg_ch {c : UInt8} (h : ∀ r, oneL (c :: r) = .tok 3 1 0) (hb : blankB c.toNat = false ∧ c.toNat ≠ 35) : Seg (fun _ => True) [c] [(3, [c], 0)] :=
  seg_tok (by simp) (fun d t e => by obtain ⟨rfl, _⟩ := List.cons.inj e; exact hb) (fun r _ => h r)
theorem seg_semi : Seg (fun _ => True) [59] [(3, [59], 0)] := seg_ch (fun r => by cases r <;> rfl) (by decide)
theorem seg_comma : Seg (fun _ => True) [44] [(3, [44], 0)] := seg_ch (fun r => by cases r <;> rfl) (by decide)
theorem seg_lbr : Seg (fun _ => True) [123] [(3, [123], 0)] := seg_ch (fun r => by cases r <;> rfl) (by decide)
theorem seg_rbr : Seg (fun _ => True) [125] [(3, [125], 0)] := seg_ch (fun r => by cases r <;> rfl) (by decide)
def Sp (r : List UInt8) : Prop := ∃ t, r = 32 :: t
theorem seg_eq : Seg Sp [61] [(3, [61], 0)] := seg_tok (by simp) (fun c t e => by obtain ⟨rfl, _⟩ := List.cons.inj e; decide) (fun r hr => by obtain ⟨t, rfl⟩ := hr; rfl)
noncomputable def partK (x : St) (c : UInt8) : List Ck :=
  if c.toNat = 114 then [(1, x.f_Reg, 0)] else if c.toNat = 108 then [(1, x.f_Loc, 0)] else if c.toNat = 101 then tokE x.f_E else if c.toNat = 102 then tokE x.f_F
  else if c.toNat = 113 then [(3, if x.f_Ne then [33, 61] else [61, 61], 0)] else [(3, [c], 0)]
noncomputable def headK (x : St) : List Ck := (1, wordK x.f_Kind, 0) :: (formK x.f_Kind).flatMap (partK x)
def spB (c : UInt8) : Bool := c == 114 || c == 108 || c == 101 || c == 102 || c == 113 || c == 61
def chainB : List UInt8 → Bool
  | [] => true
  | [c] => c != 113 && c != 61
  | c :: d :: cs => ((c != 113 && c != 61) || spB d) && chainB (d :: cs)
theorem form_chain (k : Int) : chainB (formK k) = true := by
  unfold formK; repeat' split
  all_goals decide
structure PartIs (x : St) (cs : List UInt8) : Prop where
  r : 114 ∈ cs → nameB x.f_Reg = true
  l : 108 ∈ cs → nameB x.f_Loc = true
  e : 101 ∈ cs → exprOk x.f_E = true
  f : 102 ∈ cs → exprOk x.f_F = true
theorem has_mem {f : List UInt8} {c : UInt8} (h : c ∈ f) : hasF f (c.toNat : Int) = true := by
  unfold hasF; exact List.any_eq_true.2 ⟨c, h, by simp⟩
theorem fits_is {x : St} (h : fitsB x = true) : PartIs x (formK x.f_Kind) := by
  simp only [fitsB, Bool.and_eq_true] at h
  obtain ⟨_, _, _, h1, h2, h3, h4, _⟩ := h
  refine ⟨fun hm => ?_, fun hm => ?_, fun hm => ?_, fun hm => ?_⟩
  · have : hasF (formK x.f_Kind) 114 = true := has_mem hm; unfold fN at h1; rw [if_pos this] at h1; exact h1
  · have : hasF (formK x.f_Kind) 108 = true := has_mem hm; unfold fN at h2; rw [if_pos this] at h2; exact h2
  · have : hasF (formK x.f_Kind) 101 = true := has_mem hm; unfold fL at h3; rw [if_pos this, Bool.and_eq_true] at h3; exact h3.2
  · have : hasF (formK x.f_Kind) 102 = true := has_mem hm; unfold fL at h4; rw [if_pos this, Bool.and_eq_true] at h4; exact h4.2
theorem part_head {x : St} {c : UInt8} (hc : c ∈ chars) (r : List UInt8) : OkE (partT x c ++ r) ∧ (spB c = true → Sp (partT x c ++ r)) := by
  simp only [chars, List.mem_cons, List.not_mem_nil, or_false] at hc
  rcases hc with rfl | rfl | rfl | rfl | rfl | rfl | rfl | rfl
  · exact ⟨.inr ⟨_, .inl rfl⟩, fun _ => ⟨_, rfl⟩⟩
  · exact ⟨.inr ⟨_, .inl rfl⟩, fun _ => ⟨_, rfl⟩⟩
  · exact ⟨.inr ⟨_, .inl rfl⟩, fun _ => ⟨_, rfl⟩⟩
  · exact ⟨.inr ⟨_, .inl rfl⟩, fun _ => ⟨_, rfl⟩⟩
  · have hp : partT x 113 = if x.f_Ne then [32, 33, 61] else [32, 61, 61] := rfl
    rw [hp]; cases x.f_Ne <;> exact ⟨.inr ⟨_, .inl rfl⟩, fun _ => ⟨_, rfl⟩⟩
  · exact ⟨.inr ⟨_, .inl rfl⟩, fun _ => ⟨_, rfl⟩⟩
  · exact ⟨.inr ⟨_, .inr (.inr (.inr (.inl rfl)))⟩, fun h => absurd h (by decide)⟩
  · exact ⟨.inr ⟨_, .inr (.inr (.inl rfl))⟩, fun h => absurd h (by decide)⟩
theorem parts_head {x : St} {cs : List UInt8} (hc : ∀ c ∈ cs, c ∈ chars) {r : List UInt8} (hr : OkE r) : OkE (cs.flatMap (partT x) ++ r) := by
  cases cs with
  | nil => exact hr
  | cons c cs =>
    rw [List.flatMap_cons, List.append_assoc]
    exact (part_head (hc c (List.mem_cons_self ..)) _).1
theorem seg_parts {x : St} : ∀ cs : List UInt8, chainB cs = true → (∀ c ∈ cs, c ∈ chars) → PartIs x cs → Seg OkE (cs.flatMap (partT x)) (cs.flatMap (partK x)) := by
  intro cs
  induction cs with
  | nil => intro _ _ _; exact seg_mono seg_nil (fun _ _ => trivial)
  | cons c cs ih =>
    intro hch hc hp
    have hch2 : chainB cs = true := by
      cases cs with
      | nil => rfl
      | cons d ds => rw [chainB, Bool.and_eq_true] at hch; exact hch.2
    have ht := ih hch2 (fun d hd => hc d (List.mem_cons_of_mem _ hd)) ⟨fun h => hp.r (List.mem_cons_of_mem _ h), fun h => hp.l (List.mem_cons_of_mem _ h), fun h => hp.e (List.mem_cons_of_mem _ h), fun h => hp.f (List.mem_cons_of_mem _ h)⟩
    have hok : ∀ r, OkE r → OkE (cs.flatMap (partT x) ++ r) := fun r hr => parts_head (fun d hd => hc d (List.mem_cons_of_mem _ hd)) hr
    have hsp : c = 113 ∨ c = 61 → ∀ r, OkE r → Sp (cs.flatMap (partT x) ++ r) := by
      intro h13 r hr
      cases cs with
      | nil => rw [chainB] at hch; rcases h13 with rfl | rfl <;> simp at hch
      | cons d ds =>
        rw [chainB, Bool.and_eq_true] at hch
        have : spB d = true := by
          have h := hch.1
          rcases h13 with rfl | rfl <;> simpa using h
        rw [List.flatMap_cons, List.append_assoc]
        exact (part_head (hc d (by simp)) _).2 this
    have hcc := hc c (List.mem_cons_self ..)
    rw [List.flatMap_cons, List.flatMap_cons]
    simp only [chars, List.mem_cons, List.not_mem_nil, or_false] at hcc
    rcases hcc with rfl | rfl | rfl | rfl | rfl | rfl | rfl | rfl
    · exact seg_append (seg_blank (seg_name (hp.r (List.mem_cons_self ..)))) ht (fun r hr => okE_end (hok r hr))
    · exact seg_append (seg_blank (seg_name (hp.l (List.mem_cons_self ..)))) ht (fun r hr => okE_end (hok r hr))
    · exact seg_append (seg_blank (seg_expr (hp.e (List.mem_cons_self ..)))) ht hok
    · exact seg_append (seg_blank (seg_expr (hp.f (List.mem_cons_self ..)))) ht hok
    · have h1 : partT x 113 = if x.f_Ne then [32, 33, 61] else [32, 61, 61] := rfl
      have h2 : partK x 113 = [(3, if x.f_Ne then [33, 61] else [61, 61], 0)] := rfl
      rw [h1, h2]
      cases x.f_Ne with
      | true => exact seg_append (seg_blank (seg_sign (op := 10) (by omega))) ht (hsp (.inl rfl))
      | false => exact seg_append (seg_blank (seg_sign (op := 9) (by omega))) ht (hsp (.inl rfl))
    · exact seg_append (seg_blank seg_eq) ht (hsp (.inr rfl))
    · exact seg_append seg_semi ht (fun _ _ => trivial)
    · exact seg_append seg_comma ht (fun _ _ => trivial)
theorem seg_head {x : St} (h : fitsB x = true) : Seg OkE (headT x) (headK x) := by
  have hk : 1 ≤ x.f_Kind ∧ x.f_Kind ≤ 13 := by
    simp only [fitsB, Bool.and_eq_true, decide_eq_true_eq] at h; exact h.1
  exact seg_append (seg_word (word_ok hk)) (seg_parts _ (form_chain _) (form_chars _) (fits_is h)) (fun r hr => okE_end (parts_head (form_chars _) hr))
def elseW : List UInt8 := [101, 108, 115, 101]
noncomputable def tokS : SF → List Ck
  | .nil => []
  | .cons x a b r => headK x ++ ((if blockK x.f_Kind then ((3, [123], 0) :: tokS a) ++ ((if b.flat = [] then [] else (3, [125], 0) :: (1, elseW, 0) :: (3, [123], 0) :: tokS b) ++ [(3, [125], 0)]) else []) ++ tokS r)
theorem seg_stmts : ∀ (F : SF) (d : Nat), (∀ x ∈ F.flat, fitsB x = true) → Seg (fun _ => True) (showS F d) (tokS F)
  | .nil, d, _ => seg_nil
  | .cons x a b r, d, h => by
    have hx := h x (by simp [SF.flat])
    have ha := seg_stmts a (d + 1) (fun y hy => h y (by simp [SF.flat, hy]))
    have hb := seg_stmts b (d + 1) (fun y hy => h y (by simp [SF.flat, hy]))
    have hr := seg_stmts r d (fun y hy => h y (by simp [SF.flat, hy]))
    have hh := seg_append (seg_pad d) (seg_head hx) (fun _ _ => trivial)
    have nl : Seg (fun _ => True) [10] [] := seg_bl (c := 10) (by decide)
    have bl : Seg (fun _ => True) [32] [] := seg_bl (c := 32) (by decide)
    have tr : ∀ r : List UInt8, (fun _ : List UInt8 => True) r → (fun _ : List UInt8 => True) r := fun _ _ => trivial
    have hn := seg_append nl hr (fun _ _ => trivial)
    rw [showS, tokS]
    cases hb2 : blockK x.f_Kind with
    | false =>
      simp only [Bool.false_eq_true, if_false, List.nil_append]
      exact seg_append hh hn (fun r _ => .inr ⟨_, .inr (.inr (.inr (.inr rfl)))⟩)
    | true =>
      simp only [if_true]
      have open1 : Seg (fun _ => True) [32, 123, 10] [(3, [123], 0)] := seg_append bl (seg_append seg_lbr nl (fun _ _ => trivial)) (fun _ _ => trivial)
      have b1 := seg_append (seg_append open1 ha (fun _ _ => trivial)) (seg_pad d) (fun _ _ => trivial)
      have mid : Seg (fun _ => True) (if b.flat = [] then [] else ([125, 32, 101, 108, 115, 101, 32, 123, 10] ++ showS b (d + 1)) ++ padT d) (if b.flat = [] then [] else (3, [125], 0) :: (1, elseW, 0) :: (3, [123], 0) :: tokS b) := by
        by_cases c : b.flat = []
        · rw [if_pos c, if_pos c]; exact seg_nil
        · rw [if_neg c, if_neg c]
          have e1 : Seg EndW elseW [(1, elseW, 0)] := seg_word ⟨_, _, rfl, by decide, by decide, by decide⟩
          have e2 := seg_append seg_rbr (seg_append bl (seg_append e1 open1 (fun r _ => .inr ⟨32, _, rfl, by decide⟩)) (fun _ _ => trivial)) (fun _ _ => trivial)
          have := seg_append (seg_append e2 hb (fun _ _ => trivial)) (seg_pad d) (fun _ _ => trivial)
          simpa [elseW] using this
      have b2 := seg_append b1 (seg_append mid seg_rbr (fun _ _ => trivial)) (fun _ _ => trivial)
      have := seg_append hh (seg_append b2 hn (fun _ _ => trivial)) (fun r _ => .inr ⟨_, .inl rfl⟩)
      simpa using this
theorem scan_seg {s : List UInt8} {ts : List Ck} (h : Seg (fun _ => True) s ts) (hl : s.length ≤ 20000) : From (toksS s) 0 ts ∧ (toksS s).length = ts.length := by
  obtain ⟨toks, h1, h2⟩ := h [] 0 [] trivial
  have := h2 (s.length + 1) 1 (by simp) (by simp)
  rw [List.append_nil] at this
  have e : scanL s = ⟨toks, 0, 0⟩ := by rw [scanL, if_neg (by omega), this]; simp [lexFrom, gapS]
  have he : toksS s = toks.map tkS := by rw [toksS, e]
  refine ⟨?_, by rw [he, ← h1]; simp⟩
  unfold From; rw [List.drop_zero, he, core_eq, h1]
end Go.Proofs.Ytonhmholnneaaaa
end
section
namespace Go.Proofs.Ytonhmholnneaaaa
set_option linter.unusedVariables false
set_option linter.unusedSimpArgs false
set_option maxRecDepth 10000
theorem dep_bare : ∀ {a b : List Nd}, a.map bareR = b.map bareR → ∀ s, depF a s = depF b s := by
  intro a
  induction a with
  | nil => intro b hb s; cases b with
    | nil => rfl
    | cons y b => simp at hb
  | cons y a ih =>
    intro b hb s
    cases b with
    | nil => simp at hb
    | cons z b =>
      rw [List.map_cons, List.map_cons] at hb
      obtain ⟨h1, h2⟩ := List.cons.inj hb
      have hk : kidsF y.f_Op = kidsF z.f_Op := by
        have := congrArg S_api_Node.f_Op h1
        simp only [bareR] at this
        by_cases c1 : y.f_Op = 3 <;> by_cases c2 : z.f_Op = 3
        · rw [c1, c2]
        · rw [if_pos c1, if_neg c2] at this; rw [c1, ← this]; decide
        · rw [if_neg c1, if_pos c2] at this; rw [c2, this]; decide
        · rw [if_neg c1, if_neg c2] at this; rw [this]
      obtain ⟨m, R⟩ := s
      simp only [depF, hk]
      rw [ih h2, ih h2]
theorem exQ_of {T : Nat} {l : List Tk} (hk : Toks T l) {i tu : Nat} {x : List Nd} (hi : i ≤ l.length) (h : PE l (.fl 0) 0 i (.ok x tu)) (hd : (depF x (0, [])).1 ≤ 30) (hl : x.length ≤ 200) (hp : plnB x = true) : exQ l i = .ok x tu := by
  obtain ⟨r, hr, e⟩ := exQ_is hk hi
  have hlen := hk.len
  have h1 : m_expr_parser_any (12 * l.length + 100) l (i : Int) ((0 : Nat) : Int) 0 0 = some (x, (tu : Int), ((0 : Nat) : Int), 0, 0) := impl hlen h hi (by omega) (12 * l.length + 100) (by omega)
  rw [e]
  cases r with
  | bad e' a =>
    have hne := PE_ok hr hi
    obtain ⟨X, i', j, h2, _, _⟩ := impl hlen hr hi (by omega) (12 * l.length + 100) (by omega)
    have h2 : m_expr_parser_any (12 * l.length + 100) l (i : Int) ((0 : Nat) : Int) 0 0 = _ := h2
    rw [h1] at h2
    have := Option.some.inj h2
    simp only [Prod.mk.injEq] at this
    exact absurd this.2.2.2.1.symm hne
  | ok y tv =>
    have h2 : m_expr_parser_any (12 * l.length + 100) l (i : Int) ((0 : Nat) : Int) 0 0 = some (y, (tv : Int), ((0 : Nat) : Int), 0, 0) := impl hlen hr hi (by omega) (12 * l.length + 100) (by omega)
    rw [h1] at h2
    have := Option.some.inj h2
    simp only [Prod.mk.injEq] at this
    obtain ⟨rfl, h3, _⟩ := this
    obtain rfl : tu = tv := by omega
    simp only [plainR]
    rw [if_neg (by omega), if_neg (by omega), if_pos hp]
def SameX (x y : List Nd) : Prop := x.map bareR = y.map bareR ∧ (∀ z ∈ x, z.f_Op ≠ 3) ∧ ∀ z ∈ y, z.f_Op ≠ 3
theorem plnB_no3 {x : List Nd} (h : plnB x = true) : ∀ z ∈ x, z.f_Op ≠ 3 ∧ z.f_Op ≠ 4 := by
  intro z hz
  have hh := List.all_eq_true.1 h z
  constructor <;> intro e
  · have := hh (List.mem_filter.2 ⟨hz, by simp [isName, e]⟩); rw [e] at this; exact absurd this (by decide)
  · have := hh (List.mem_filter.2 ⟨hz, by simp [isName, e]⟩); rw [e] at this; exact absurd this (by decide)
theorem plnB_bare {x y : List Nd} (h : x.map bareR = y.map bareR) (hx : plnB x = true) (hy : ∀ z ∈ y, z.f_Op ≠ 3) : plnB y = true := by
  refine List.all_eq_true.2 fun z hz => ?_
  obtain ⟨hz, hn⟩ := List.mem_filter.1 hz
  have hy3 := hy z hz
  have : bareR z ∈ x.map bareR := by rw [h]; exact List.mem_map_of_mem hz
  obtain ⟨w, hw, e⟩ := List.mem_map.1 this
  obtain ⟨w3, w4⟩ := plnB_no3 hx w hw
  have e1 := congrArg S_api_Node.f_Op e
  simp only [bareR, if_neg w3, if_neg hy3] at e1
  simp only [isName, Bool.or_eq_true, beq_iff_eq] at hn
  rw [beq_iff_eq]; omega
theorem exQ_back {T : Nat} {l : List Tk} (hk : Toks T l) {i : Nat} {x : List Nd} {rest : List Ck} (hi : i ≤ l.length) (h : exprOk x = true) (hp : plnB x = true) (hf : From l i (tokE x ++ rest)) (hs : Stop rest) : ∃ y, exQ l i = .ok y (i + (tokE x).length) ∧ SameX x y := by
  obtain ⟨h1, h2, h3, h4, h5, _⟩ := trE_ok h
  obtain ⟨y, y1, y2⟩ := (pe_back (trE x) h1 (by rw [h2]; exact h5)).2 i 0 rest hf (by omega) hs
  rw [h2] at y2
  have hg := PE_good hk.ok y1
  dsimp only at hg
  have hy3 : ∀ z ∈ y, z.f_Op ≠ 3 := fun z hz => (hg.2 z hz).2
  have hd : (depF x (0, [])).1 ≤ 30 := by
    simp only [exprOk, Bool.and_eq_true, decide_eq_true_eq] at h; exact h.2.2.2
  refine ⟨y, exQ_of hk hi y1 (by rw [dep_bare y2]; exact hd) (by have : y.length = x.length := by simpa using congrArg List.length y2
                                                                 omega) (plnB_bare y2.symm hp hy3), y2.symm, fun z hz => (plnB_no3 hp z hz).1, hy3⟩
theorem stop_sign {s : List UInt8} {v : Int} (h : s ≠ [46]) (h2 : ∀ op : Int, 6 ≤ op ∧ op ≤ 14 → s ≠ signF op) (r : List Ck) : Stop ((3, s, v) :: r) := by
  intro c r' e h3
  obtain ⟨rfl, _⟩ := List.cons.inj e
  exact ⟨h, h2⟩
theorem sign_not {s : List UInt8} (h : ∀ op ∈ [6, 7, 8, 9, 10, 11, 12, 13, (14 : Int)], s ≠ signF op) : ∀ op : Int, 6 ≤ op ∧ op ≤ 14 → s ≠ signF op := by
  intro op ho
  have : op = 6 ∨ op = 7 ∨ op = 8 ∨ op = 9 ∨ op = 10 ∨ op = 11 ∨ op = 12 ∨ op = 13 ∨ op = 14 := by omega
  exact h op (by simp; omega)
theorem stop_comma (v : Int) (r : List Ck) : Stop ((3, [44], v) :: r) := stop_sign (by decide) (sign_not (by decide)) r
theorem stop_semi (v : Int) (r : List Ck) : Stop ((3, [59], v) :: r) := stop_sign (by decide) (sign_not (by decide)) r
theorem stop_lbr (v : Int) (r : List Ck) : Stop ((3, [123], v) :: r) := stop_sign (by decide) (sign_not (by decide)) r
theorem stop_rbr (v : Int) (r : List Ck) : Stop ((3, [125], v) :: r) := stop_sign (by decide) (sign_not (by decide)) r
theorem stop_name (w : List UInt8) (v : Int) (r : List Ck) : Stop ((1, w, v) :: r) := by
  intro c r' e h3
  obtain ⟨rfl, _⟩ := List.cons.inj e
  exact absurd h3 (show ¬ ((1 : Int) = 3) by decide)
theorem stop_none : Stop [] := fun c r e => by cases e
def chain2B : List UInt8 → Bool
  | [] => true
  | [_] => true
  | c :: d :: cs => ((c != 101 && c != 102) || (d == 44 || d == 59)) && chain2B (d :: cs)
theorem form_chain2 (k : Int) : chain2B (formK k) = true := by
  unfold formK; repeat' split
  all_goals decide
structure RunIs (x : St) (cs : List UInt8) (s s' : Fs) : Prop where
  r : s'.reg = if 114 ∈ cs then x.f_Reg else s.reg
  l : s'.loc = if 108 ∈ cs then x.f_Loc else s.loc
  e : if 101 ∈ cs then SameX x.f_E s'.e else s'.e = s.e
  f : if 102 ∈ cs then SameX x.f_F s'.f else s'.f = s.f
  n : s'.ne = if 113 ∈ cs then x.f_Ne else s.ne
theorem from_len {l : List Tk} {i : Nat} {a b : List Ck} (h : From l i (a ++ b)) (hi : i ≤ l.length) : i + a.length ≤ l.length := by
  have := congrArg List.length h
  rw [List.length_drop, List.length_map, List.length_append] at this
  omega
theorem from_isN {l : List Tk} {i : Nat} {w : List UInt8} {v : Int} {cs : List Ck} (h : From l i ((1, w, v) :: cs)) (hw : nameB w = true) : isN l i = true ∧ txt l i = w := by
  obtain ⟨t, h1, h2, _⟩ := from_get h
  injection h2 with e1 e2; injection e2 with e2 e3
  exact ⟨by simp [isN, h1, e1, e2, hw], by simp [txt, h1, e2]⟩
theorem runF_back {T : Nat} {l : List Tk} (hk : Toks T l) {x : St} (hp1 : plnB x.f_E = true) (hp2 : plnB x.f_F = true) : ∀ (cs : List UInt8) (i : Nat) (s : Fs) (rest : List Ck), chain2B cs = true → (∀ c ∈ cs, c ∈ chars) → PartIs x cs → i ≤ l.length → From l i (cs.flatMap (partK x) ++ rest) → Stop rest →
    ∃ s', runF l (exQ l) cs i s = .ok s' (i + (cs.flatMap (partK x)).length) ∧ RunIs x cs s s' := by
  intro cs
  induction cs with
  | nil =>
    intro i s rest _ _ _ _ _ _
    exact ⟨s, rfl, by simp, by simp, by simp, by simp, by simp⟩
  | cons c cs ih =>
    intro i s rest hch hc hp hi hf hst
    have hch2 : chain2B cs = true := by
      cases cs with
      | nil => rfl
      | cons d ds => rw [chain2B, Bool.and_eq_true] at hch; exact hch.2
    have hcc := hc c (List.mem_cons_self ..)
    have hpp : PartIs x cs := ⟨fun h => hp.r (List.mem_cons_of_mem _ h), fun h => hp.l (List.mem_cons_of_mem _ h), fun h => hp.e (List.mem_cons_of_mem _ h), fun h => hp.f (List.mem_cons_of_mem _ h)⟩
    rw [List.flatMap_cons, List.append_assoc] at hf
    have hlen := from_len hf hi
    have hf2 := from_append hf
    have hse : c = 101 ∨ c = 102 → Stop (cs.flatMap (partK x) ++ rest) := by
      intro h13
      cases cs with
      | nil => exact hst
      | cons d ds =>
        rw [chain2B, Bool.and_eq_true] at hch
        have h := hch.1
        have hd : d = 44 ∨ d = 59 := by rcases h13 with rfl | rfl <;> simpa using h
        rw [List.flatMap_cons, List.append_assoc]
        rcases hd with rfl | rfl
        · exact stop_comma 0 _
        · exact stop_semi 0 _
    have go : ∀ s1 : Fs, stepF l (exQ l) c i s = .ok s1 (i + (partK x c).length) → ∃ s', runF l (exQ l) (c :: cs) i s = .ok s' (i + ((c :: cs).flatMap (partK x)).length) ∧ RunIs x cs s1 s' := by
      intro s1 h1
      obtain ⟨s', g1, g2⟩ := ih _ s1 rest hch2 (fun d hd => hc d (List.mem_cons_of_mem _ hd)) hpp hlen hf2 hst
      refine ⟨s', ?_, g2⟩
      rw [runF, h1]
      dsimp only
      rw [g1, List.flatMap_cons, List.length_append, Nat.add_assoc]
    simp only [chars, List.mem_cons, List.not_mem_nil, or_false] at hcc
    rcases hcc with rfl | rfl | rfl | rfl | rfl | rfl | rfl | rfl
    · have hf : From l i ((1, x.f_Reg, 0) :: (cs.flatMap (partK x) ++ rest)) := hf
      obtain ⟨a1, a2⟩ := from_isN hf (hp.r (List.mem_cons_self ..))
      obtain ⟨s', g1, g2⟩ := go { s with reg := txt l i } (by
        show (if isN l i = true then _ else _) = _
        rw [if_pos a1]; rfl)
      refine ⟨s', g1, ?_, ?_, ?_, ?_, ?_⟩
      · rw [g2.r]; split <;> simp [a2]
      · rw [g2.l]; simp
      · have := g2.e; simpa using this
      · have := g2.f; simpa using this
      · rw [g2.n]; simp
    · have hf : From l i ((1, x.f_Loc, 0) :: (cs.flatMap (partK x) ++ rest)) := hf
      obtain ⟨a1, a2⟩ := from_isN hf (hp.l (List.mem_cons_self ..))
      obtain ⟨s', g1, g2⟩ := go { s with loc := txt l i } (by
        show (if isN l i = true then _ else _) = _
        rw [if_pos a1]; rfl)
      refine ⟨s', g1, ?_, ?_, ?_, ?_, ?_⟩
      · rw [g2.r]; simp
      · rw [g2.l]; split <;> simp [a2]
      · have := g2.e; simpa using this
      · have := g2.f; simpa using this
      · rw [g2.n]; simp
    · obtain ⟨y, y1, y2⟩ := exQ_back hk hi (hp.e (List.mem_cons_self ..)) hp1 hf (hse (.inl rfl))
      obtain ⟨s', g1, g2⟩ := go { s with e := y } (by
        show (match exQ l i with | .ok x tu => FR.ok { s with e := x } tu | .bad e a => .bad e a) = _
        rw [y1]; rfl)
      refine ⟨s', g1, ?_, ?_, ?_, ?_, ?_⟩
      · rw [g2.r]; simp
      · rw [g2.l]; simp
      · have := g2.e
        split at this
        · simp [this]
        · simp [this, y2]
      · have := g2.f; simpa using this
      · rw [g2.n]; simp
    · obtain ⟨y, y1, y2⟩ := exQ_back hk hi (hp.f (List.mem_cons_self ..)) hp2 hf (hse (.inr rfl))
      obtain ⟨s', g1, g2⟩ := go { s with f := y } (by
        show (match exQ l i with | .ok x tu => FR.ok { s with f := x } tu | .bad e a => .bad e a) = _
        rw [y1]; rfl)
      refine ⟨s', g1, ?_, ?_, ?_, ?_, ?_⟩
      · rw [g2.r]; simp
      · rw [g2.l]; simp
      · have := g2.e; simpa using this
      · have := g2.f
        split at this
        · simp [this]
        · simp [this, y2]
      · rw [g2.n]; simp
    · have hf : From l i ((3, if x.f_Ne then [33, 61] else [61, 61], 0) :: (cs.flatMap (partK x) ++ rest)) := hf
      have a1 := from_isS hf [33, 61]
      have a2 := from_isS hf [61, 61]
      obtain ⟨s', g1, g2⟩ := go { s with ne := x.f_Ne } (by
        show (if isSg l i [33, 61] = true then FR.ok { s with ne := true } (i + 1) else if isSg l i [61, 61] = true then .ok { s with ne := false } (i + 1) else .bad (errF l i) (placeF l i)) = _
        rw [a1, a2]
        cases x.f_Ne <;> rfl)
      refine ⟨s', g1, ?_, ?_, ?_, ?_, ?_⟩
      · rw [g2.r]; simp
      · rw [g2.l]; simp
      · have := g2.e; simpa using this
      · have := g2.f; simpa using this
      · rw [g2.n]; split <;> simp
    all_goals
      have a1 := from_isS hf
      obtain ⟨s', g1, g2⟩ := go s (by
        first
        | (show (if isSg l i [61] = true then FR.ok s (i + 1) else _) = _; rw [a1, if_pos (by decide)]; rfl)
        | (show (if isSg l i [59] = true then FR.ok s (i + 1) else _) = _; rw [a1, if_pos (by decide)]; rfl)
        | (show (if isSg l i [44] = true then FR.ok s (i + 1) else _) = _; rw [a1, if_pos (by decide)]; rfl))
      refine ⟨s', g1, ?_, ?_, ?_, ?_, ?_⟩
      · rw [g2.r]; simp
      · rw [g2.l]; simp
      · have := g2.e; simpa using this
      · have := g2.f; simpa using this
      · rw [g2.n]; simp
end Go.Proofs.Ytonhmholnneaaaa
end
section
namespace Go.Proofs.Ytonhmholnneaaaa
set_option linter.unusedVariables false
set_option linter.unusedSimpArgs false
set_option maxRecDepth 10000
structure SameS (x y : St) : Prop where
  k : x.f_Kind = y.f_Kind
  r : x.f_Reg = y.f_Reg
  l : x.f_Loc = y.f_Loc
  n : x.f_Ne = y.f_Ne
  b : x.f_Body = y.f_Body
  c : x.f_Else = y.f_Else
  e : SameX x.f_E y.f_E
  f : SameX x.f_F y.f_F
def All2 : List St → List St → Prop
  | [], [] => True
  | x :: l, y :: m => SameS x y ∧ All2 l m
  | _, _ => False
theorem All2.len : ∀ {l m : List St}, All2 l m → l.length = m.length
  | [], [], _ => rfl
  | _ :: l, _ :: m, h => by simp [All2.len h.2]
  | [], _ :: _, h => h.elim
  | _ :: _, [], h => h.elim
theorem All2.app : ∀ {l m l' m' : List St}, All2 l m → All2 l' m' → All2 (l ++ l') (m ++ m')
  | [], [], _, _, _, h' => h'
  | _ :: l, _ :: m, _, _, h, h' => ⟨h.1, All2.app h.2 h'⟩
  | [], _ :: _, _, _, h, _ => h.elim
  | _ :: _, [], _, _, h, _ => h.elim
theorem All2.get : ∀ {l m : List St}, All2 l m → ∀ (i : Nat) x y, l[i]? = some x → m[i]? = some y → SameS x y
  | [], [], _, i, x, y, h, _ => by simp at h
  | a :: l, b :: m, h, 0, x, y, h1, h2 => by
    simp only [List.getElem?_cons_zero, Option.some.injEq] at h1 h2
    subst h1; subst h2; exact h.1
  | a :: l, b :: m, h, i + 1, x, y, h1, h2 => by
    simp only [List.getElem?_cons_succ] at h1 h2
    exact All2.get h.2 i x y h1 h2
  | [], _ :: _, h, _, _, _, _, _ => h.elim
  | _ :: _, [], h, _, _, _, _, _ => h.elim
theorem mem_has {f : List UInt8} {c : UInt8} (h : c ∉ f) : hasF f (c.toNat : Int) = false := by
  unfold hasF
  refine List.any_eq_false.2 fun b hb e => h ?_
  rw [beq_iff_eq] at e
  have : b = c := UInt8.toNat_inj.1 (by omega)
  rw [← this]; exact hb
theorem fits_pln {x : St} (h : fitsB x = true) : plnB x.f_E = true ∧ plnB x.f_F = true := by
  simp only [fitsB, Bool.and_eq_true] at h
  obtain ⟨_, _, _, _, _, h3, h4, _⟩ := h
  have hL : ∀ {c : Int} {l : List Nd}, fL (formK x.f_Kind) c l = true → plnB l = true := by
    intro c l hs
    unfold fL at hs
    split at hs
    · rw [Bool.and_eq_true] at hs; exact hs.1
    · rw [beq_iff_eq] at hs
      obtain rfl : l = [] := List.length_eq_zero_iff.1 (by omega)
      rfl
  exact ⟨hL h3, hL h4⟩
theorem same_nil : SameX [] [] := ⟨rfl, by simp, by simp⟩
theorem run_same {x : St} (h : fitsB x = true) {s : Fs} (hr : RunIs x (formK x.f_Kind) fs0 s) {b c : Nat} (hb : x.f_Body = (b : Int)) (hc : x.f_Else = (c : Int)) (a : Int) : SameS x (mkS x.f_Kind s b c a) := by
  simp only [fitsB, Bool.and_eq_true] at h
  obtain ⟨_, _, h0, h1, h2, h3, h4, _⟩ := h
  refine ⟨rfl, ?_, ?_, ?_, hb, hc, ?_, ?_⟩
  · show x.f_Reg = s.reg
    rw [hr.r]
    by_cases m : (114 : UInt8) ∈ formK x.f_Kind
    · rw [if_pos m]
    · rw [if_neg m]
      have : hasF (formK x.f_Kind) 114 = false := mem_has m
      unfold fN at h1; rw [this] at h1; simpa [fs0] using h1
  · show x.f_Loc = s.loc
    rw [hr.l]
    by_cases m : (108 : UInt8) ∈ formK x.f_Kind
    · rw [if_pos m]
    · rw [if_neg m]
      have : hasF (formK x.f_Kind) 108 = false := mem_has m
      unfold fN at h2; rw [this] at h2; simpa [fs0] using h2
  · show x.f_Ne = s.ne
    rw [hr.n]
    by_cases m : (113 : UInt8) ∈ formK x.f_Kind
    · rw [if_pos m]
    · rw [if_neg m]
      have : hasF (formK x.f_Kind) 113 = false := mem_has m
      rw [this] at h0; simpa [fs0] using h0
  · show SameX x.f_E s.e
    have he := hr.e
    by_cases m : (101 : UInt8) ∈ formK x.f_Kind
    · rw [if_pos m] at he; exact he
    · rw [if_neg m] at he
      have : hasF (formK x.f_Kind) 101 = false := mem_has m
      unfold fL at h3; rw [this, if_neg (by simp), beq_iff_eq] at h3
      have e1 : x.f_E = [] := List.length_eq_zero_iff.1 (by omega)
      rw [he, e1]; exact same_nil
  · show SameX x.f_F s.f
    have he := hr.f
    by_cases m : (102 : UInt8) ∈ formK x.f_Kind
    · rw [if_pos m] at he; exact he
    · rw [if_neg m] at he
      have : hasF (formK x.f_Kind) 102 = false := mem_has m
      unfold fL at h4; rw [this, if_neg (by simp), beq_iff_eq] at h4
      have e1 : x.f_F = [] := List.length_eq_zero_iff.1 (by omega)
      rw [he, e1]; exact same_nil
theorem kind_word {k : Int} (h : 1 ≤ k ∧ k ≤ 13) : kindW (wordK k) = k ∧ wordK k ≠ elseW := by
  have c : k = 1 ∨ k = 2 ∨ k = 3 ∨ k = 4 ∨ k = 5 ∨ k = 6 ∨ k = 7 ∨ k = 8 ∨ k = 9 ∨ k = 10 ∨ k = 11 ∨ k = 12 ∨ k = 13 := by omega
  rcases c with rfl | rfl | rfl | rfl | rfl | rfl | rfl | rfl | rfl | rfl | rfl | rfl | rfl <;> exact ⟨by decide, by decide⟩
theorem from_kind {l : List Tk} {i : Nat} {k v : Int} {cs : List Ck} (h : From l i ((1, wordK k, v) :: cs)) (hk : 1 ≤ k ∧ k ≤ 13) : kindAt l i = k := by
  obtain ⟨t, h1, h2, _⟩ := from_get h
  injection h2 with e1 e2; injection e2 with e2 e3
  unfold kindAt
  rw [h1]
  dsimp only
  rw [if_pos e1, e2, (kind_word hk).1]
def EndS (rest : List Ck) : Prop := rest = [] ∨ ∃ v r, rest = (3, [125], v) :: r
theorem endS_stop {rest : List Ck} (h : EndS rest) : Stop rest := by
  rcases h with rfl | ⟨v, r, rfl⟩
  · exact stop_none
  · exact stop_rbr v r
theorem tok_stop (F : SF) {rest : List Ck} (h : EndS rest) : Stop (tokS F ++ rest) := by
  cases F with
  | nil => exact endS_stop h
  | cons x a b r => exact stop_name _ _ _
theorem from_else {l : List Tk} {i : Nat} (F : SF) {rest : List Ck} (h : EndS rest) (hf : From l i (tokS F ++ rest)) (hx : ∀ x ∈ F.flat, fitsB x = true) : isElse l i = false := by
  unfold isElse
  cases F with
  | nil =>
    rcases h with rfl | ⟨v, r, rfl⟩
    · have hf : From l i [] := hf
      rw [from_nil hf]
    · have hf : From l i ((3, [125], v) :: r) := hf
      obtain ⟨t, h1, h2, _⟩ := from_get hf
      injection h2 with e1 e2
      rw [h1]; dsimp only; rw [e1]; simp
  | cons x a b r =>
    have hk : 1 ≤ x.f_Kind ∧ x.f_Kind ≤ 13 := by
      have := hx x (by simp [SF.flat])
      simp only [fitsB, Bool.and_eq_true, decide_eq_true_eq] at this; exact this.1
    have hf : From l i ((1, wordK x.f_Kind, 0) :: _) := hf
    obtain ⟨t, h1, h2, _⟩ := from_get hf
    injection h2 with e1 e2; injection e2 with e2 e3
    rw [h1]; dsimp only; rw [e2]
    have := (kind_word hk).2
    have e : (wordK x.f_Kind == [101, 108, 115, 101]) = false := by rw [beq_eq_false_iff_ne]; exact this
    rw [e]; simp
theorem fits_block {x : St} (h : fitsB x = true) : (1 ≤ x.f_Kind ∧ x.f_Kind ≤ 13) ∧ (blockK x.f_Kind = false → x.f_Body = 0 ∧ x.f_Else = 0) ∧ (x.f_Else ≠ 0 → x.f_Kind = 10) := by
  simp only [fitsB, Bool.and_eq_true, decide_eq_true_eq, Bool.or_eq_true, beq_iff_eq] at h
  obtain ⟨h0, _, _, _, _, _, _, h1, h2⟩ := h
  refine ⟨h0, fun hb => ?_, fun he => by omega⟩
  rw [hb] at h1
  have : x.f_Kind ≠ 10 := fun e => by rw [e] at hb; exact absurd hb (by decide)
  exact ⟨by simpa using h1, by omega⟩
theorem se_back {T : Nat} {l : List Tk} (hk : Toks T l) : ∀ (F : SF) (i inn : Nat) (rest : List Ck), F.wf → (∀ x ∈ F.flat, fitsB x = true) → i ≤ l.length → From l i (tokS F ++ rest) → inn + F.dep ≤ 30 → EndS rest → ∃ y, SE l false inn i (.ok y (i + (tokS F).length)) ∧ All2 F.flat y
  | .nil, i, inn, rest, _, _, hi, hf, _, he => by
    refine ⟨[], .stop ?_, trivial⟩
    rcases he with rfl | ⟨v, r, rfl⟩
    · have hf : From l i [] := hf
      have := from_nil hf
      left; exact List.getElem?_eq_none_iff.1 this
    · have hf : From l i ((3, [125], v) :: r) := hf
      right; rw [from_isS hf]; rfl
  | .cons x a b r, i, inn, rest, hw, hx, hi, hf, hd, he => by
    obtain ⟨w1, w2, wa, wb, wr⟩ := hw
    have hfx := hx x (by simp [SF.flat])
    have hxa : ∀ y ∈ a.flat, fitsB y = true := fun y hy => hx y (by simp [SF.flat, hy])
    have hxb : ∀ y ∈ b.flat, fitsB y = true := fun y hy => hx y (by simp [SF.flat, hy])
    have hxr : ∀ y ∈ r.flat, fitsB y = true := fun y hy => hx y (by simp [SF.flat, hy])
    obtain ⟨hkk, hb0, hb1⟩ := fits_block hfx
    obtain ⟨p1, p2⟩ := fits_pln hfx
    rw [tokS] at hf ⊢
    rw [SF.dep] at hd
    have hlen0 := from_len hf hi
    have hdr : inn + r.dep ≤ 30 := by omega
    rw [headK, List.cons_append, List.cons_append, List.append_assoc, List.append_assoc] at hf
    have hkind := from_kind hf hkk
    obtain ⟨t, _, _, hf1⟩ := from_get hf
    have hi1 : i + 1 ≤ l.length := by
      have := from_len (a := [(1, wordK x.f_Kind, 0)]) hf hi
      simpa using this
    have hk0 : kindAt l i ≠ 0 := by omega
    cases hbl : blockK x.f_Kind with
    | false =>
      obtain ⟨b1, b2⟩ := hb0 hbl
      have ea : a.flat = [] := List.length_eq_zero_iff.1 (by omega)
      have eb : b.flat = [] := List.length_eq_zero_iff.1 (by omega)
      rw [hbl] at hf1
      simp only [Bool.false_eq_true, if_false, List.nil_append] at hf1
      obtain ⟨s, s1, s2⟩ := runF_back hk p1 p2 (formK x.f_Kind) (i + 1) fs0 _ (form_chain2 _) (form_chars _) (fits_is hfx) hi1 hf1 (tok_stop r he)
      have hf2 := from_append hf1
      have hi2 := from_len hf1 hi1
      generalize hj : i + 1 + ((formK x.f_Kind).flatMap (partK x)).length = j at s1 hf2 hi2
      obtain ⟨y, y1, y2⟩ := se_back hk r _ inn rest wr hxr hi2 hf2 hdr he
      rw [← hkind] at s1
      have := SE.simple hk0 (by rw [hkind]; exact hbl) s1 y1
      refine ⟨[mkS (kindAt l i) s 0 0 (placeF l i)] ++ y, ?_, ?_⟩
      · have e : i + (headK x ++ ((if (false : Bool) = true then ((3, [123], 0) :: tokS a) ++ ((if b.flat = [] then [] else (3, [125], 0) :: (1, elseW, 0) :: (3, [123], 0) :: tokS b) ++ [(3, [125], 0)]) else []) ++ tokS r)).length = j + (tokS r).length := by
          rw [← hj]; simp [headK]; omega
        rw [e]; exact this
      · rw [SF.flat, ea, eb]
        refine ⟨?_, y2⟩
        rw [hkind]
        exact run_same hfx s2 (by rw [b1]; rfl) (by rw [b2]; rfl) _
    | true =>
      rw [hbl] at hf1 hd
      simp only [if_true, List.cons_append, List.append_assoc] at hf1 hd
      obtain ⟨s, s1, s2⟩ := runF_back hk p1 p2 (formK x.f_Kind) (i + 1) fs0 _ (form_chain2 _) (form_chars _) (fits_is hfx) hi1 hf1 (stop_lbr _ _)
      have hf2 := from_append hf1
      have hi2 := from_len hf1 hi1
      generalize hj : i + 1 + ((formK x.f_Kind).flatMap (partK x)).length = j at s1 hf2 hi2
      rw [← hkind] at s1
      have hopen : isSg l j [123] = true := by rw [from_isS hf2]; rfl
      have hj1 := isS_lt hopen
      obtain ⟨_, _, _, hf3⟩ := from_get hf2
      by_cases c : b.flat = []
      · rw [if_pos c, List.nil_append] at hf3
        have hf3 : From l (j + 1) (tokS a ++ ((3, [125], 0) :: (tokS r ++ rest))) := hf3
        obtain ⟨ya, a1, a2⟩ := se_back hk a (j + 1) (inn + 1) _ wa hxa (by omega) hf3 (by omega) (.inr ⟨_, _, rfl⟩)
        have hf4 := from_append hf3
        have hcl : isSg l (j + 1 + (tokS a).length) [125] = true := by rw [from_isS hf4]; rfl
        obtain ⟨_, _, _, hf5⟩ := from_get hf4
        have hblk := SE.close hopen (by omega) a1 hcl
        have hj2 := isS_lt hcl
        obtain ⟨y, y1, y2⟩ := se_back hk r _ inn rest wr hxr (by omega) hf5 hdr he
        have := SE.blk hk0 (by rw [hkind]; exact hbl) s1 hblk (fun _ => from_else r he hf5 hxr) y1
        have la := a2.len
        refine ⟨(mkS (kindAt l i) s ya.length 0 (placeF l i) :: ya) ++ y, ?_, ?_⟩
        · have e : i + (headK x ++ ((if (true : Bool) = true then ((3, [123], 0) :: tokS a) ++ ((if b.flat = [] then [] else (3, [125], 0) :: (1, elseW, 0) :: (3, [123], 0) :: tokS b) ++ [(3, [125], 0)]) else []) ++ tokS r)).length = j + 1 + (tokS a).length + 1 + (tokS r).length := by
            rw [if_pos rfl, if_pos c, ← hj]; simp [headK]; omega
          rw [e]; exact this
        · rw [SF.flat, c, List.nil_append]
          refine ⟨?_, All2.app a2 y2⟩
          rw [hkind]
          exact run_same hfx s2 (by rw [w1, la]) (by rw [w2, c]; rfl) _
      · rw [if_neg c] at hf3
        have hk10 : x.f_Kind = 10 := hb1 (by
          have : b.flat.length ≠ 0 := fun e => c (List.length_eq_zero_iff.1 e)
          rw [w2]; omega)
        have hf3 : From l (j + 1) (tokS a ++ ((3, [125], 0) :: (1, elseW, 0) :: (3, [123], 0) :: (tokS b ++ ((3, [125], 0) :: (tokS r ++ rest))))) := by simpa using hf3
        obtain ⟨ya, a1, a2⟩ := se_back hk a (j + 1) (inn + 1) _ wa hxa (by omega) hf3 (by omega) (.inr ⟨_, _, rfl⟩)
        have hf4 := from_append hf3
        have hcl : isSg l (j + 1 + (tokS a).length) [125] = true := by rw [from_isS hf4]; rfl
        obtain ⟨_, _, _, hf5⟩ := from_get hf4
        have hblk := SE.close hopen (by omega) a1 hcl
        have hj2 := isS_lt hcl
        obtain ⟨t2, t3, t4, hf6⟩ := from_get hf5
        have hel : isElse l (j + 1 + (tokS a).length + 1) = true := by
          unfold isElse; rw [t3]
          injection t4 with e1 e2; injection e2 with e2 e3
          dsimp only; rw [e1, e2]; rfl
        have hopen2 : isSg l (j + 1 + (tokS a).length + 1 + 1) [123] = true := by rw [from_isS hf6]; rfl
        obtain ⟨_, _, _, hf7⟩ := from_get hf6
        have hj3 := isS_lt hopen2
        obtain ⟨yb, b1, b2⟩ := se_back hk b _ (inn + 1) _ wb hxb (by omega) hf7 (by omega) (.inr ⟨_, _, rfl⟩)
        have hf8 := from_append hf7
        have hcl2 : isSg l (j + 1 + (tokS a).length + 1 + 1 + 1 + (tokS b).length) [125] = true := by rw [from_isS hf8]; rfl
        obtain ⟨_, _, _, hf9⟩ := from_get hf8
        have hblk2 := SE.close hopen2 (by omega) b1 hcl2
        have hj4 := isS_lt hcl2
        obtain ⟨y, y1, y2⟩ := se_back hk r _ inn rest wr hxr (by omega) hf9 hdr he
        have := SE.els (by rw [hkind]; exact hk10) s1 hblk hel hblk2 y1
        have la := a2.len; have lb := b2.len
        refine ⟨(mkS (kindAt l i) s ya.length yb.length (placeF l i) :: (ya ++ yb)) ++ y, ?_, ?_⟩
        · have e : i + (headK x ++ ((if (true : Bool) = true then ((3, [123], 0) :: tokS a) ++ ((if b.flat = [] then [] else (3, [125], 0) :: (1, elseW, 0) :: (3, [123], 0) :: tokS b) ++ [(3, [125], 0)]) else []) ++ tokS r)).length = j + 1 + (tokS a).length + 1 + 1 + 1 + (tokS b).length + 1 + (tokS r).length := by
            rw [if_pos rfl, if_neg c, ← hj]; simp [headK]; omega
          rw [e]; exact this
        · rw [SF.flat]
          refine ⟨?_, by rw [← List.append_assoc]; exact All2.app (All2.app a2 b2) y2⟩
          rw [hkind]
          exact run_same hfx s2 (by rw [w1, la]) (by rw [w2, lb]) _
end Go.Proofs.Ytonhmholnneaaaa
end
section
namespace Go.Proofs.Ytonhmholnneaaaa
set_option linter.unusedVariables false
set_option linter.unusedSimpArgs false
set_option maxRecDepth 10000
theorem parse_s {T : Nat} {l : List Tk} (hk : Toks T l) {n i : Nat} {r : SR} (hr : SE l false 0 i r) (hi : i ≤ l.length) (hn : 12 * l.length + T + 900 + 6 * l.length + 60 ≤ n) : m_stmt_Parse n l (i : Int) = some (parseS l i r) := by
  have hl := hk.len
  obtain ⟨n, rfl⟩ : ∃ j, n = j + 20 := ⟨n - 20, by omega⟩
  have h := implP hk hr hi (by omega) (n + 18) (n + 18) [] (by omega) (by omega) (by simp)
  rw [m_stmt_Parse, bif_not (by omega), bif_not (by omega), show m_stmt_kinds (n + 19) = some kindsL from rfl, Option.bind_some, words_s (n + 19) (n + 4), Option.bind_some]
  dsimp only
  cases r with
  | bad e a =>
    have hne : e ≠ 0 := SE_ok hk hr hi
    obtain ⟨X, p, g1, g2⟩ := h
    have g3 : m_stmt_parser_list (n + 19) 0 l (i : Int) 0 0 wordsM = some (X, p, e, a) := by
      rw [m_stmt_parser_list]
      have g1 : stmt_parser_list_L0 (n + 18) (m_stmt_parser_one (n + 18)) 0 l wordsM (n + 18) (i : Int) 0 0 [] = _ := g1
      rw [g1]; rfl
    rw [g3, Option.bind_some]
    dsimp only
    rw [show (e != 0) = true by rw [bne_iff_ne]; exact hne, cond_true]; rfl
  | ok x tu =>
    have g3 : m_stmt_parser_list (n + 19) 0 l (i : Int) 0 0 wordsM = some (x, (tu : Int), 0, 0) := by
      rw [m_stmt_parser_list]
      have g1 : stmt_parser_list_L0 (n + 18) (m_stmt_parser_one (n + 18)) 0 l wordsM (n + 18) (i : Int) 0 0 [] = _ := h
      rw [g1]; rfl
    rw [g3, Option.bind_some]
    dsimp only
    rw [bne_self_eq_false, cond_false]
    simp only [parseS]
    by_cases c : 200 < x.length
    · rw [if_pos c, bif_decide (by omega), place_s (n + 18) l i _ _ _ wordsM (by omega)]; rfl
    · rw [if_neg c, bif_not (by omega)]
theorem SameX.symm {x y : List Nd} (h : SameX x y) : SameX y x := ⟨h.1.symm, h.2.2, h.2.1⟩
theorem SameS.symm {x y : St} (h : SameS x y) : SameS y x := ⟨h.k.symm, h.r.symm, h.l.symm, h.n.symm, h.b.symm, h.c.symm, h.e.symm, h.f.symm⟩
theorem All2.symm : ∀ {l m : List St}, All2 l m → All2 m l
  | [], [], _ => trivial
  | _ :: l, _ :: m, h => ⟨h.1.symm, All2.symm h.2⟩
  | [], _ :: _, h => h.elim
  | _ :: _, [], h => h.elim
theorem sameX_m {n : Nat} {x y : List Nd} (h : SameX x y) (hl : x.length ≤ 250) (hn : 300 < n) : m_ref02_Same n x y false = some true := same02_bare n x y (by omega) (by omega) h.1 h.2.1 h.2.2
theorem same3f_loop (n : Nat) (a b : List St) (h : All2 a b) (hl : a.length < 1000000) (hx : LenS a) (hn : 300 < n) : ∀ (m i k : Nat), a.length - i ≤ m → m < k → ref03_Same_L0 n a b k false (i : Int) = some (.out ()) := by
  have hlen := h.len
  intro m
  induction m with
  | zero =>
    intro i k h hk
    obtain ⟨k, rfl⟩ : ∃ j, k = j + 1 := ⟨k - 1, by omega⟩
    rw [ref03_Same_L0, bif_not (by omega)]
  | succ m ih =>
    intro i k hm hk
    obtain ⟨k, rfl⟩ : ∃ j, k = j + 1 := ⟨k - 1, by omega⟩
    rw [ref03_Same_L0]
    by_cases hi : i < a.length
    · have h2 := hx a[i] (List.getElem_mem hi)
      have hs := h.get i _ _ (List.getElem?_eq_getElem hi) (List.getElem?_eq_getElem (show i < b.length by omega))
      rw [bif_decide (by omega), idx_get hi, idx_get (show i < b.length by omega)]
      simp only [Option.bind_some, hs.k, hs.r, hs.l, hs.n, hs.b, hs.c, bne_self_eq_false, cond_false, beq_self_eq_true, cond_true, sameX_m (n := n) hs.e h2.1 hn, sameX_m (n := n) hs.f h2.2 hn, wrap_one i (show i < 4611686018427387904 by omega)]
      exact ih (i + 1) k (by omega) (by omega)
    · rw [bif_not (by omega)]
theorem same3f_m (n : Nat) (a b : List St) (h : All2 a b) (hl : a.length < 1000) (hx : LenS a) (hn : 1100 < n) : m_ref03_Same n a b false = some true := by
  obtain ⟨n, rfl⟩ : ∃ j, n = j + 1 := ⟨n - 1, by omega⟩
  have := same3f_loop n a b h (by omega) hx (by omega) a.length 0 n (by omega) (by omega)
  rw [show ((0 : Nat) : Int) = 0 from rfl] at this
  rw [m_ref03_Same, show (((a.length : Nat) : Int) != ((b.length : Nat) : Int)) = false by rw [h.len]; simp, cond_false, this]; rfl
theorem tokens03_any (n : Nat) (s : List UInt8) (hn : 20100 < n) : m_law03_tokens n s = some (toksS s) := by
  by_cases h : s.length ≤ 20000
  · exact tokens03_m n s (by omega) (by omega)
  · obtain ⟨n, rfl⟩ : ∃ j, n = j + 2 := ⟨n - 2, by omega⟩
    have : m_ref01_Scan (n + 1) s = some (resS (scanL s)) := by
      rw [m_ref01_Scan, scanL, bif_decide (by omega), if_pos (by omega)]; rfl
    rw [m_law03_tokens, this]; rfl
theorem toks_long {s : List UInt8} (h : 20000 < s.length) : toksS s = [] := by
  unfold toksS scanL; rw [if_pos h]; rfl
theorem parse_long {s : List UInt8} (h : 20000 < s.length) {n : Nat} (hn : 2000 ≤ n) : m_stmt_Parse n (toksS s) 0 = some ([], 0, 0, 0) := by
  rw [toks_long h]
  have hk : Toks 0 [] := ⟨by simp, by simp, by simp, by omega⟩
  have := parse_s hk (n := n) (i := 0) (SE.stop (l := []) (inn := 0) (i := 0) (.inl (by simp))) (by simp) (by simp; omega)
  exact this
theorem back_all {F : SF} {s : List UInt8} (hw : F.wf) (hr : rightB F.flat = true) (hs : Seg (fun _ => True) s (tokS F)) (hl : s.length ≤ 20000) {n : Nat} (hn : 400000 ≤ n) : ∃ y, m_stmt_Parse n (toksS s) 0 = some (y, ((toksS s).length : Int), 0, 0) ∧ All2 F.flat y := by
  obtain ⟨h1, h2⟩ := scan_seg hs hl
  have hk := toks_of s (by omega)
  have hcnt := (toksS_ok s).2
  have hb : rightB F.flat = true := hr
  unfold rightB at hb
  rw [dF_flat F _ hw (by omega)] at hb
  simp only [Bool.and_eq_true, Bool.not_eq_true', decide_eq_false_iff_not, List.all_eq_true] at hb
  obtain ⟨y, y1, y2⟩ := se_back hk F 0 0 [] hw hb.2.2 (by omega) (by rw [List.append_nil]; exact h1) (by omega) (.inl rfl)
  have := parse_s hk y1 (by omega) (n := n) (by omega)
  have hy := y2.len
  refine ⟨y, ?_, y2⟩
  have this : m_stmt_Parse n (toksS s) 0 = _ := this
  rw [this]
  simp only [parseS]
  rw [if_neg (by omega), Nat.zero_add, h2]
theorem right_len {l : List St} (h : rightB l = true) : l.length ≤ 200 ∧ LenS l := by
  obtain ⟨F, f1, f2, _, hl, hx⟩ := right_tree h
  refine ⟨hl, fun x hx' => ?_⟩
  have h := hx x hx'
  simp only [fitsB, Bool.and_eq_true] at h
  obtain ⟨_, _, _, _, _, h3, h4, _⟩ := h
  have hL : ∀ {c : Int} {l : List Nd}, fL (formK x.f_Kind) c l = true → l.length ≤ 250 := by
    intro c l hs
    unfold fL at hs
    split at hs
    · rw [Bool.and_eq_true] at hs
      obtain ⟨t, _, _, t3, _⟩ := exprOk_tree hs.2
      omega
    · rw [beq_iff_eq] at hs; omega
  exact ⟨hL h3, hL h4⟩
end Go.Proofs.Ytonhmholnneaaaa
end
section
namespace Go.Proofs.Ytonhmholnneaaaa
set_option linter.unusedVariables false
set_option linter.unusedSimpArgs false
set_option maxRecDepth 10000
theorem exQ_good {T : Nat} {l : List Tk} (hk : Toks T l) {i tu : Nat} {x : List Nd} (hi : i ≤ l.length) (h : exQ l i = .ok x tu) : (plnB x && exprOk x) = true := by
  obtain ⟨r, hr, e⟩ := exQ_is hk hi
  rw [h] at e
  cases r with
  | bad e' a => simp only [plainR] at e; cases e
  | ok y tv =>
    simp only [plainR] at e
    split at e
    · cases e
    · split at e
      · cases e
      · split at e
        · rename_i c1 c2 c3
          cases e
          have hg := PE_good hk.ok hr
          dsimp only at hg
          obtain ⟨t, _, _, _, _, h5⟩ := good_tree hg (by omega) (by omega)
          rw [c3, h5]; rfl
        · cases e
theorem exQ_bad {B T : Nat} {l : List Tk} (hk : Toks T l) (hB : B < 1000000) (h : ∀ t ∈ l, TkOk t ∧ t.f_At + t.f_Text.length ≤ B) {i : Nat} {e a : Int} (hi : i ≤ l.length) (hx : exQ l i = .bad e a) : 0 ≤ a ∧ a ≤ B := by
  obtain ⟨r, hr, e'⟩ := exQ_is hk hi
  rw [hx] at e'
  cases r with
  | bad e2 a2 => simp only [plainR] at e'; cases e'; exact PE_bad_in hB h hr
  | ok y tv =>
    have hp := placeF_in hB h i
    simp only [plainR] at e'
    split at e'
    · cases e'; exact hp
    · split at e'
      · cases e'; exact hp
      · split at e'
        · cases e'
        · cases e'; exact hp
structure GoodF (cs : List UInt8) (s s' : Fs) : Prop where
  r : if 114 ∈ cs then nameB s'.reg = true else s'.reg = s.reg
  l : if 108 ∈ cs then nameB s'.loc = true else s'.loc = s.loc
  e : if 101 ∈ cs then (plnB s'.e && exprOk s'.e) = true else s'.e = s.e
  f : if 102 ∈ cs then (plnB s'.f && exprOk s'.f) = true else s'.f = s.f
  n : 113 ∉ cs → s'.ne = s.ne
theorem isN_txt {l : List Tk} {i : Nat} (h : isN l i = true) : nameB (txt l i) = true := by
  unfold isN at h
  cases hg : l[i]? with
  | none => rw [hg] at h; cases h
  | some t => rw [hg] at h; simp only [Bool.and_eq_true] at h; simp [txt, hg, h.2]
theorem runF_good {T : Nat} {l : List Tk} (hk : Toks T l) : ∀ (cs : List UInt8) (i j : Nat) (s s' : Fs), i ≤ l.length → (∀ c ∈ cs, c ∈ chars) → runF l (exQ l) cs i s = .ok s' j → GoodF cs s s' := by
  intro cs
  induction cs with
  | nil =>
    intro i j s s' hi _ h
    rw [runF] at h; cases h
    exact ⟨by simp, by simp, by simp, by simp, by simp⟩
  | cons c cs ih =>
    intro i j s s' hi hc h
    have hok := stepF_ok hk (c := c) (s := s) hi
    have hcc := hc c (List.mem_cons_self ..)
    rw [runF] at h
    have go : ∀ s1 j1, stepF l (exQ l) c i s = .ok s1 j1 → GoodF cs s1 s' := by
      intro s1 j1 h1
      rw [h1] at h hok
      exact ih j1 j s1 s' hok.2 (fun d hd => hc d (List.mem_cons_of_mem _ hd)) h
    have nb : ∀ e a, stepF l (exQ l) c i s ≠ .bad e a := by
      intro e a h1; rw [h1] at h; cases h
    simp only [chars, List.mem_cons, List.not_mem_nil, or_false] at hcc
    rcases hcc with rfl | rfl | rfl | rfl | rfl | rfl | rfl | rfl
    · have e : stepF l (exQ l) 114 i s = if isN l i = true then .ok { s with reg := txt l i } (i + 1) else .bad (errF l i) (placeF l i) := rfl
      by_cases hn : isN l i = true
      · rw [if_pos hn] at e
        have g := go _ _ e
        refine ⟨?_, ?_, ?_, ?_, fun hm => ?_⟩
        · have := g.r; rw [if_pos (List.mem_cons_self ..)]
          split at this
          · exact this
          · rw [this]; exact isN_txt hn
        · have := g.l; simpa using this
        · have := g.e; simpa using this
        · have := g.f; simpa using this
        · rw [g.n fun h => hm (List.mem_cons_of_mem _ h)]
      · rw [if_neg hn] at e; exact absurd e (nb _ _)
    · have e : stepF l (exQ l) 108 i s = if isN l i = true then .ok { s with loc := txt l i } (i + 1) else .bad (errF l i) (placeF l i) := rfl
      by_cases hn : isN l i = true
      · rw [if_pos hn] at e
        have g := go _ _ e
        refine ⟨?_, ?_, ?_, ?_, fun hm => ?_⟩
        · have := g.r; simpa using this
        · have := g.l; rw [if_pos (List.mem_cons_self ..)]
          split at this
          · exact this
          · rw [this]; exact isN_txt hn
        · have := g.e; simpa using this
        · have := g.f; simpa using this
        · rw [g.n fun h => hm (List.mem_cons_of_mem _ h)]
      · rw [if_neg hn] at e; exact absurd e (nb _ _)
    · have e : stepF l (exQ l) 101 i s = match exQ l i with | .ok x tu => .ok { s with e := x } tu | .bad e a => .bad e a := rfl
      cases hx : exQ l i with
      | bad e' a => rw [hx] at e; exact absurd e (nb _ _)
      | ok x tu =>
        rw [hx] at e
        have g := go _ _ e
        refine ⟨?_, ?_, ?_, ?_, fun hm => ?_⟩
        · have := g.r; simpa using this
        · have := g.l; simpa using this
        · have := g.e; rw [if_pos (List.mem_cons_self ..)]
          split at this
          · exact this
          · rw [this]; exact exQ_good hk hi hx
        · have := g.f; simpa using this
        · rw [g.n fun h => hm (List.mem_cons_of_mem _ h)]
    · have e : stepF l (exQ l) 102 i s = match exQ l i with | .ok x tu => .ok { s with f := x } tu | .bad e a => .bad e a := rfl
      cases hx : exQ l i with
      | bad e' a => rw [hx] at e; exact absurd e (nb _ _)
      | ok x tu =>
        rw [hx] at e
        have g := go _ _ e
        refine ⟨?_, ?_, ?_, ?_, fun hm => ?_⟩
        · have := g.r; simpa using this
        · have := g.l; simpa using this
        · have := g.e; simpa using this
        · have := g.f; rw [if_pos (List.mem_cons_self ..)]
          split at this
          · exact this
          · rw [this]; exact exQ_good hk hi hx
        · rw [g.n fun h => hm (List.mem_cons_of_mem _ h)]
    · have e : stepF l (exQ l) 113 i s = if isSg l i [33, 61] = true then FR.ok { s with ne := true } (i + 1) else if isSg l i [61, 61] = true then .ok { s with ne := false } (i + 1) else .bad (errF l i) (placeF l i) := rfl
      have fin : ∀ b : Bool, GoodF cs { s with ne := b } s' → GoodF (113 :: cs) s s' := fun b g => by
        refine ⟨?_, ?_, ?_, ?_, fun hm => absurd (List.mem_cons_self ..) hm⟩
        · have := g.r; simpa using this
        · have := g.l; simpa using this
        · have := g.e; simpa using this
        · have := g.f; simpa using this
      by_cases h1 : isSg l i [33, 61] = true
      · rw [if_pos h1] at e; exact fin true (go _ _ e)
      · rw [if_neg h1] at e
        by_cases h2 : isSg l i [61, 61] = true
        · rw [if_pos h2] at e; exact fin false (go _ _ e)
        · rw [if_neg h2] at e; exact absurd e (nb _ _)
    all_goals
      have fin : ∀ d : UInt8, d ≠ 114 → d ≠ 108 → d ≠ 101 → d ≠ 102 → d ≠ 113 → GoodF cs s s' → GoodF (d :: cs) s s' := fun d d1 d2 d3 d4 d5 g => by
        refine ⟨?_, ?_, ?_, ?_, fun hm => g.n fun h => hm (List.mem_cons_of_mem _ h)⟩
        · have := g.r; simpa [d1.symm] using this
        · have := g.l; simpa [d2.symm] using this
        · have := g.e; simpa [d3.symm] using this
        · have := g.f; simpa [d4.symm] using this
    · have e : stepF l (exQ l) 61 i s = if isSg l i [61] = true then .ok s (i + 1) else .bad (errF l i) (placeF l i) := rfl
      by_cases h1 : isSg l i [61] = true
      · rw [if_pos h1] at e; exact fin 61 (by decide) (by decide) (by decide) (by decide) (by decide) (go _ _ e)
      · rw [if_neg h1] at e; exact absurd e (nb _ _)
    · have e : stepF l (exQ l) 59 i s = if isSg l i [59] = true then .ok s (i + 1) else .bad (errF l i) (placeF l i) := rfl
      by_cases h1 : isSg l i [59] = true
      · rw [if_pos h1] at e; exact fin 59 (by decide) (by decide) (by decide) (by decide) (by decide) (go _ _ e)
      · rw [if_neg h1] at e; exact absurd e (nb _ _)
    · have e : stepF l (exQ l) 44 i s = if isSg l i [44] = true then .ok s (i + 1) else .bad (errF l i) (placeF l i) := rfl
      by_cases h1 : isSg l i [44] = true
      · rw [if_pos h1] at e; exact fin 44 (by decide) (by decide) (by decide) (by decide) (by decide) (go _ _ e)
      · rw [if_neg h1] at e; exact absurd e (nb _ _)
theorem mk_fits {T : Nat} {l : List Tk} (hk : Toks T l) {i j : Nat} {s : Fs} (h0 : kindAt l i ≠ 0) (h : runF l (exQ l) (formK (kindAt l i)) (i + 1) fs0 = .ok s j) (b c : Nat) (hb : blockK (kindAt l i) = false → b = 0) (hc : kindAt l i ≠ 10 → c = 0) : fitsB (mkS (kindAt l i) s b c (placeF l i)) = true := by
  have hlt := kindAt_lt h0
  have g := runF_good hk (formK (kindAt l i)) (i + 1) j fs0 s hlt (form_chars _) h
  have hin := kindAt_in l i
  have hat : 0 ≤ placeF l i := by
    rw [hk.at' hlt]; exact (hk.ok _ (List.getElem_mem hlt)).1
  unfold fitsB
  simp only [Bool.and_eq_true]
  refine ⟨decide_eq_true (show 1 ≤ kindAt l i ∧ kindAt l i ≤ 13 by omega), ?_, ?_, ?_, ?_, ?_, ?_, ?_, ?_⟩
  · show (!decide (placeF l i < 0)) = true
    rw [decide_eq_false (by omega)]; rfl
  · show (!s.ne || hasF (formK (kindAt l i)) 113) = true
    by_cases m : (113 : UInt8) ∈ formK (kindAt l i)
    · have : hasF (formK (kindAt l i)) 113 = true := has_mem m
      rw [this]; simp
    · rw [g.n m]; rfl
  · show fN (formK (kindAt l i)) 114 s.reg = true
    have := g.r
    unfold fN
    by_cases m : (114 : UInt8) ∈ formK (kindAt l i)
    · rw [if_pos m] at this; rw [if_pos (show hasF (formK (kindAt l i)) 114 = true from has_mem m)]; exact this
    · rw [if_neg m] at this; rw [if_neg (by rw [show hasF (formK (kindAt l i)) 114 = false from mem_has m]; simp), this]; rfl
  · show fN (formK (kindAt l i)) 108 s.loc = true
    have := g.l
    unfold fN
    by_cases m : (108 : UInt8) ∈ formK (kindAt l i)
    · rw [if_pos m] at this; rw [if_pos (show hasF (formK (kindAt l i)) 108 = true from has_mem m)]; exact this
    · rw [if_neg m] at this; rw [if_neg (by rw [show hasF (formK (kindAt l i)) 108 = false from mem_has m]; simp), this]; rfl
  · show fL (formK (kindAt l i)) 101 s.e = true
    have := g.e
    unfold fL
    by_cases m : (101 : UInt8) ∈ formK (kindAt l i)
    · rw [if_pos m] at this; rw [if_pos (show hasF (formK (kindAt l i)) 101 = true from has_mem m)]; exact this
    · rw [if_neg m] at this; rw [if_neg (by rw [show hasF (formK (kindAt l i)) 101 = false from mem_has m]; simp), this]; rfl
  · show fL (formK (kindAt l i)) 102 s.f = true
    have := g.f
    unfold fL
    by_cases m : (102 : UInt8) ∈ formK (kindAt l i)
    · rw [if_pos m] at this; rw [if_pos (show hasF (formK (kindAt l i)) 102 = true from has_mem m)]; exact this
    · rw [if_neg m] at this; rw [if_neg (by rw [show hasF (formK (kindAt l i)) 102 = false from mem_has m]; simp), this]; rfl
  · show (blockK (kindAt l i) || (b : Int) == 0) = true
    cases hbl : blockK (kindAt l i) with
    | true => rfl
    | false => rw [hb hbl]; rfl
  · show (kindAt l i == 10 || (c : Int) == 0) = true
    by_cases k10 : kindAt l i = 10
    · rw [k10]; rfl
    · rw [hc k10]; simp
def SRtree (inn : Nat) : SR → Prop
  | .ok x _ => ∃ F : SF, F.wf ∧ F.flat = x ∧ F.dep + inn ≤ 30 ∧ ∀ y ∈ x, fitsB y = true
  | .bad _ _ => True
theorem se_tree {T : Nat} {l : List Tk} (hk : Toks T l) {md : Bool} {inn i : Nat} {r : SR} (h : SE l md inn i r) : i ≤ l.length → inn ≤ 30 → if md then (match r with | .ok x _ => inn < 30 ∧ SRtree (inn + 1) r | _ => True) else SRtree inn r := by
  induction h with
  | stop h => intro hi hn; exact ⟨.nil, trivial, rfl, by simp [SF.dep]; omega, by simp⟩
  | no h1 h2 h3 => intro hi hn; trivial
  | fbad h1 h2 => intro hi hn; trivial
  | @simple inn i j s r h1 h2 h3 h4 ih =>
    intro hi hn
    have h5 := runF_le hk (kindAt_lt h1) h3
    have ih := ih h5.2 hn
    simp only [Bool.false_eq_true, if_false] at ih ⊢
    cases r with
    | bad e a => trivial
    | ok x tu =>
      obtain ⟨F, f1, f2, f3, f4⟩ := ih
      refine ⟨.cons (mkS (kindAt l i) s 0 0 (placeF l i)) .nil .nil F, ⟨rfl, rfl, trivial, trivial, f1⟩, by simp [SF.flat, f2], ?_, ?_⟩
      · simp only [SF.dep, mkS, h2]; simp; omega
      · intro y hy
        rcases List.mem_append.1 hy with hy | hy
        · rw [List.mem_singleton] at hy; subst hy
          exact mk_fits hk h1 h3 0 0 (fun _ => rfl) (fun _ => rfl)
        · exact f4 y hy
  | bbad h1 h2 h3 h4 ih => intro hi hn; trivial
  | @blk inn i j j2 s b r h1 h2 h3 h4 h5 h6 ih1 ih2 =>
    intro hi hn
    have h7 := runF_le hk (kindAt_lt h1) h3
    have h8 := SE_ok hk h4 h7.2
    simp only [SRok, if_true] at h8
    have ih1 := ih1 h7.2 hn
    simp only [if_true] at ih1
    have ih2 := ih2 h8.2.1 hn
    simp only [Bool.false_eq_true, if_false] at ih2 ⊢
    cases r with
    | bad e a => trivial
    | ok x tu =>
      obtain ⟨i1, A, a1, a2, a3, a4⟩ := ih1
      obtain ⟨F, f1, f2, f3, f4⟩ := ih2
      refine ⟨.cons (mkS (kindAt l i) s b.length 0 (placeF l i)) A .nil F, ⟨by rw [a2]; rfl, rfl, a1, trivial, f1⟩, by simp [SF.flat, f2, a2], ?_, ?_⟩
      · simp only [SF.dep, mkS, h2]; simp; omega
      · intro y hy
        rcases List.mem_append.1 hy with hy | hy
        · rcases List.mem_cons.1 hy with rfl | hy
          · exact mk_fits hk h1 h3 b.length 0 (fun e => by rw [e] at h2; cases h2) (fun _ => rfl)
          · exact a4 y hy
        · exact f4 y hy
  | ebad h1 h3 h4 h5 h6 ih1 ih2 => intro hi hn; trivial
  | @els inn i j j2 j3 s b c r h1 h3 h4 h5 h6 h7 ih1 ih2 ih3 =>
    intro hi hn
    have h0 : kindAt l i ≠ 0 := by omega
    have h8 := runF_le hk (kindAt_lt h0) h3
    have hj := isElse_lt h5
    have h11 := SE_ok hk h6 hj
    simp only [SRok, if_true] at h11
    have ih1 := ih1 h8.2 hn
    simp only [if_true] at ih1
    have ih2 := ih2 hj hn
    simp only [if_true] at ih2
    have ih3 := ih3 h11.2.1 hn
    simp only [Bool.false_eq_true, if_false] at ih3 ⊢
    cases r with
    | bad e a => trivial
    | ok x tu =>
      obtain ⟨i1, A, a1, a2, a3, a4⟩ := ih1
      obtain ⟨i2, B, b1, b2, b3, b4⟩ := ih2
      obtain ⟨F, f1, f2, f3, f4⟩ := ih3
      refine ⟨.cons (mkS (kindAt l i) s b.length c.length (placeF l i)) A B F, ⟨by rw [a2]; rfl, by rw [b2]; rfl, a1, b1, f1⟩, by simp [SF.flat, f2, a2, b2], ?_, ?_⟩
      · have hb : blockK (kindAt l i) = true := by rw [h1]; rfl
        have e : (SF.cons (mkS (kindAt l i) s b.length c.length (placeF l i)) A B F).dep = max (max (1 + A.dep) (1 + B.dep)) F.dep := by
          show max (if blockK (kindAt l i) = true then _ else 0) _ = _
          rw [if_pos hb]
        rw [e]; omega
      · intro y hy
        rcases List.mem_append.1 hy with hy | hy
        · rcases List.mem_cons.1 hy with rfl | hy
          · exact mk_fits hk h0 h3 b.length c.length (fun e => by rw [h1] at e; exact absurd e (by decide)) (fun e => absurd h1 e)
          · rcases List.mem_append.1 hy with hy | hy
            · exact a4 y hy
            · exact b4 y hy
        · exact f4 y hy
  | nob h => intro hi hn; trivial
  | deep h1 h2 => intro hi hn; trivial
  | sbad h1 h2 h3 ih => intro hi hn; trivial
  | close h1 h2 h3 h4 ih =>
    intro hi hn
    have := ih (isS_lt h1) (by omega)
    simp only [Bool.false_eq_true, if_false] at this
    exact ⟨h2, this⟩
  | opn h1 h2 h3 h4 ih => intro hi hn; trivial
def FRin (B : Nat) : FR → Prop
  | .bad _ a => 0 ≤ a ∧ a ≤ B
  | .ok _ _ => True
theorem runF_bad {B T : Nat} {l : List Tk} (hk : Toks T l) (hB : B < 1000000) (h : ∀ t ∈ l, TkOk t ∧ t.f_At + t.f_Text.length ≤ B) {e a : Int} : ∀ (cs : List UInt8) (i : Nat) (s : Fs), i ≤ l.length → runF l (exQ l) cs i s = .bad e a → 0 ≤ a ∧ a ≤ B
  | [], i, s, hi, hx => by rw [runF] at hx; cases hx
  | c :: cs, i, s, hi, hx => by
    have hok := stepF_ok hk (c := c) (s := s) hi
    have hp := placeF_in hB h i
    have hst : FRin B (stepF l (exQ l) c i s) := by
      unfold stepF
      refine fr_ite (Q := FRin B) (fun _ => fr_ite (Q := FRin B) (fun _ => trivial) fun _ => hp) fun _ => fr_ite (Q := FRin B) (fun _ => fr_ite (Q := FRin B) (fun _ => trivial) fun _ => hp) fun _ => fr_ite (Q := FRin B) (fun _ => ?_) fun _ => fr_ite (Q := FRin B) (fun _ => ?_) fun _ => fr_ite (Q := FRin B) (fun _ => fr_ite (Q := FRin B) (fun _ => trivial) fun _ => fr_ite (Q := FRin B) (fun _ => trivial) fun _ => hp) fun _ => fr_ite (Q := FRin B) (fun _ => trivial) fun _ => hp
      · cases hx2 : exQ l i with
        | ok x tu => trivial
        | bad e a => exact exQ_bad hk hB h hi hx2
      · cases hx2 : exQ l i with
        | ok x tu => trivial
        | bad e a => exact exQ_bad hk hB h hi hx2
    rw [runF] at hx
    revert hx hok hst
    cases stepF l (exQ l) c i s with
    | bad e' a' => intro hx _ hst; cases hx; exact hst
    | ok s2 j2 => intro hx hok _; exact runF_bad hk hB h cs j2 s2 hok.2 hx
theorem se_bad {B T : Nat} {l : List Tk} (hk : Toks T l) (hB : B < 1000000) (h : ∀ t ∈ l, TkOk t ∧ t.f_At + t.f_Text.length ≤ B) {md : Bool} {inn i : Nat} {r : SR} (hs : SE l md inn i r) : i ≤ l.length → match r with | .bad _ a => 0 ≤ a ∧ a ≤ B | _ => True := by
  induction hs with
  | stop _ => intro hi; trivial
  | no h1 h2 h3 => intro hi; exact placeF_in hB h _
  | fbad h1 h2 => intro hi; exact runF_bad hk hB h _ _ _ (kindAt_lt h1) h2
  | @simple inn i j s r h1 h2 h3 h4 ih =>
    intro hi
    have := ih (runF_le hk (kindAt_lt h1) h3).2
    cases r with
    | ok x tu => trivial
    | bad e a => exact this
  | bbad h1 h2 h3 h4 ih => intro hi; exact ih (runF_le hk (kindAt_lt h1) h3).2
  | @blk inn i j j2 s b r h1 h2 h3 h4 h5 h6 ih1 ih2 =>
    intro hi
    have h7 := runF_le hk (kindAt_lt h1) h3
    have h8 := SE_ok hk h4 h7.2
    simp only [SRok, if_true] at h8
    have := ih2 h8.2.1
    cases r with
    | ok x tu => trivial
    | bad e a => exact this
  | ebad h1 h3 h4 h5 h6 ih1 ih2 => intro hi; exact ih2 (isElse_lt h5)
  | @els inn i j j2 j3 s b c r h1 h3 h4 h5 h6 h7 ih1 ih2 ih3 =>
    intro hi
    have h11 := SE_ok hk h6 (isElse_lt h5)
    simp only [SRok, if_true] at h11
    have := ih3 h11.2.1
    cases r with
    | ok x tu => trivial
    | bad e a => exact this
  | nob _ => intro hi; exact placeF_in hB h _
  | deep h1 h2 => intro hi; exact placeF_in hB h _
  | sbad h1 h2 h3 ih => intro hi; exact ih (isS_lt h1)
  | close h1 h2 h3 h4 ih => intro hi; trivial
  | opn h1 h2 h3 h4 ih => intro hi; exact placeF_in hB h _
theorem se_end {l : List Tk} {md : Bool} {inn i : Nat} {r : SR} (hs : SE l md inn i r) : md = false → match r with | .ok _ tu => l.length ≤ tu ∨ isSg l tu [125] = true | _ => True := by
  induction hs with
  | stop h => intro _; exact h
  | @simple inn i j s r h1 h2 h3 h4 ih => intro _; have := ih rfl; cases r <;> first | trivial | exact this
  | @blk inn i j j2 s b r h1 h2 h3 h4 h5 h6 ih1 ih2 => intro _; have := ih2 rfl; cases r <;> first | trivial | exact this
  | @els inn i j j2 j3 s b c r h1 h3 h4 h5 h6 h7 ih1 ih2 ih3 => intro _; have := ih3 rfl; cases r <;> first | trivial | exact this
  | close h1 h2 h3 h4 ih => intro h; cases h
  | _ => intro _; trivial
theorem stmtRight_m (s : List UInt8) : m_law03_StmtRight 400001 s = some true := by
  have known : m_law03_known 400000 = some true := by decide +kernel
  rw [m_law03_StmtRight, known]
  by_cases c : 2000 < ((s.length : Nat) : Int)
  · rw [bif_decide c]; rfl
  rw [bif_not c, tokens03_any _ _ (by omega), Option.bind_some]
  have hk := toks_of s (by omega)
  obtain ⟨ho, hcnt⟩ := toksS_ok s
  generalize toksS s = L at *
  obtain ⟨r, hr⟩ := se_total hk L.length 0 0 false (by omega) (by omega) (by omega)
  have hp0 := parse_s hk hr (by omega) (n := 400000) (by omega)
  have hp : m_stmt_Parse 400000 L 0 = _ := hp0
  have hbad := se_bad hk (B := s.length) (by omega) ho hr (by omega)
  have hne := SE_ok hk hr (by omega)
  have hpl := placeF_in (B := s.length) (by omega) ho 0
  cases r with
  | bad e a =>
    have hp : m_stmt_Parse 400000 L 0 = some ([], 0, e, a) := hp
    rw [hp, Option.bind_some]
    dsimp only at hbad ⊢
    rw [show (e != 0) = true by rw [bne_iff_ne]; exact hne, cond_true]
    show (bif decide (0 ≤ a) then (bif decide (a ≤ ((s.length : Nat) : Int)) then (some true).bind (fun y13 => some y13) else some false) else some false) = some true
    rw [bif_decide hbad.1, bif_decide hbad.2]; rfl
  | ok x tu =>
    by_cases c2 : 200 < x.length
    · have hp : m_stmt_Parse 400000 L 0 = some ([], 0, 2, placeF L 0) := by rw [hp]; simp only [parseS]; rw [if_pos c2]
      rw [hp, Option.bind_some]
      dsimp only
      rw [show ((2 : Int) != 0) = true from rfl, cond_true]
      show (bif decide (0 ≤ placeF L 0) then (bif decide (placeF L 0 ≤ ((s.length : Nat) : Int)) then (some true).bind (fun y13 => some y13) else some false) else some false) = some true
      rw [bif_decide hpl.1, bif_decide hpl.2]; rfl
    have hp : m_stmt_Parse 400000 L 0 = some (x, (tu : Int), 0, 0) := by rw [hp]; simp only [parseS]; rw [if_neg c2]
    rw [hp, Option.bind_some]
    have htree := se_tree hk hr (by omega) (by omega)
    simp only [Bool.false_eq_true, if_false] at htree
    obtain ⟨F, f1, f2, f3, f4⟩ := htree
    subst f2
    have hR := tree_right f1 (by omega) (by omega) f4
    have hL := (right_len hR).2
    have hend := se_end hr rfl
    dsimp only at hend
    simp only [SRok, Bool.false_eq_true, if_false] at hne
    have sf : m_stmt_Show 400000 F.flat 0 = some (showS F 0) := sshow_m f1 hR 0 400000 (by omega) (by omega)
    dsimp only
    rw [show ((0 : Int) != 0) = false from rfl, cond_false, sf, Option.bind_some, tokens03_any _ _ (by omega), Option.bind_some]
    have back : ∃ y, m_stmt_Parse 400000 (toksS (showS F 0)) 0 = some y ∧ (¬ 20000 < (((showS F 0).length : Nat) : Int) → y.2.2.1 = 0 ∧ m_ref03_Same 400000 F.flat y.1 false = some true) := by
      by_cases c3 : 20000 < (showS F 0).length
      · exact ⟨_, parse_long c3 (by omega), fun h => by omega⟩
      · obtain ⟨y, y1, y2⟩ := back_all f1 hR (seg_stmts F 0 f4) (by omega) (n := 400000) (by omega)
        exact ⟨_, y1, fun _ => ⟨rfl, same3f_m 400000 _ _ y2 (by omega) hL (by omega)⟩⟩
    obtain ⟨y, y1, y2⟩ := back
    rw [y1, Option.bind_some, sright_m 400000 _ (by omega) hL (by omega), hR, Option.bind_some, cond_true]
    have fin : (bif decide (20000 < (((showS F 0).length : Nat) : Int)) then ((some true : Option Bool).bind fun y26 => some y26) else (bif y.2.2.1 == 0 then ((m_ref03_Same 400000 F.flat y.1 false).bind fun y29 => (bif y29 then ((some true : Option Bool).bind fun y32 => some y32) else some false)) else some false)) = some true := by
      by_cases c3 : 20000 < (((showS F 0).length : Nat) : Int)
      · rw [bif_decide c3]; rfl
      · obtain ⟨z1, z2⟩ := y2 c3
        rw [bif_not c3, z1, z2]; rfl
    by_cases c4 : L.length ≤ tu
    · have : tu = L.length := by omega
      rw [this, beq_self_eq_true, cond_true]; exact fin
    · rw [show ((tu : Int) == ((L.length : Nat) : Int)) = false by rw [beq_eq_false_iff_ne]; omega, cond_false]
      have h125 := hend.resolve_left c4
      obtain ⟨t, t1, t2, t3⟩ := sign_kind h125
      rw [idx_some t1, Option.bind_some, t3, show (([125] : List UInt8) == [125]) = true from rfl, cond_true]; exact fin
end Go.Proofs.Ytonhmholnneaaaa
end
section
namespace Go.Proofs.Ytonhmholnneaaaa
set_option linter.unusedVariables false
set_option linter.unusedSimpArgs false
set_option maxRecDepth 100000
set_option maxHeartbeats 4000000
theorem ok_ref01_gap {n:Nat} ⦃v0_s:(List UInt8)⦄ ⦃v1_at:Int⦄ ⦃r:Int⦄:m_ref01_gap n v0_s v1_at=some r→CN n 36 [sA v0_s,iA v1_at] []=some (iA r,[]):=by
 intro h;rcases n with _|n;cases h
 rw [m_ref01_gap] at h
 refine callN_eq' Try.func36 (by rfl) rfl rfl (Nat.le_of_ble_eq_true rfl) ?_
 intro call hc;conv=>lhs;whnf
 revert h
 intro h;refine bind_some2 h ?_;clear h;intro o9 ho9 h
 refine lq (σ:=Int) (τ:=Int) (ν:=Int) 0 (fun s1 a3=>stOf 53 [(0,sA v0_s),(1,iA s1)]) (fun s1 a3=>[]) (fun x37 a36=>stOf 53 [(1,iA x37)]) (fun x37 a36=>[]) (fun v=>(iA v,[])) (fun k s=>ref01_gap_L0 n v0_s k s) (fun s=>rfl) o9 n v1_at (fun _=>0) ho9 ?_ ?_
 intro k2 s1 a3 K4 cont5 hK6 hcont7 h hr8
 replace h:ref01_gap_L0 n v0_s (k2+1) s1=some o9:=h
 rw [ref01_gap_L0] at h
 conv=>lhs;whnf
 revert h
 refine br ?_ ?_
 refine ixs ?_;intro x11
 refine br ?_ ?_
 exact fun h=>cq (hcont7 (IntKind.i64.wrap (s1+1)) (fun _=>0) h)
 refine ixs ?_;intro x13
 refine br ?_ ?_
 exact fun h=>cq (hcont7 (IntKind.i64.wrap (s1+1)) (fun _=>0) h)
 refine ixs ?_;intro x15
 refine br ?_ ?_
 exact fun h=>cq (hcont7 (IntKind.i64.wrap (s1+1)) (fun _=>0) h)
 refine ixs ?_;intro x17
 refine br ?_ ?_
 exact fun h=>cq (hcont7 (IntKind.i64.wrap (s1+1)) (fun _=>0) h)
 refine ixs ?_;intro x19
 refine br ?_ ?_
 intro h;refine bind_some2 h ?_;clear h;intro o29 ho29 h
 refine lq (σ:=Int) (τ:=Int) (ν:=Int) 3 (fun s21 a23=>stOf 53 [(0,sA v0_s),(1,iA s21)]) (fun s21 a23=>[]) (fun x34 a33=>stOf 53 [(0,sA v0_s),(1,iA x34)]) (fun x34 a33=>[]) (fun v=>(iA v,[])) (fun k s=>ref01_gap_L1 n v0_s k s) (fun s=>rfl) o29 n s1 (fun _=>0) ho29 ?_ ?_
 intro k22 s21 a23 K24 cont25 hK26 hcont27 h hr28
 replace h:ref01_gap_L1 n v0_s (k22+1) s21=some o29:=h
 rw [ref01_gap_L1] at h
 conv=>lhs;whnf
 revert h
 refine br ?_ ?_
 refine ixs ?_;intro x31
 refine br ?_ ?_
 exact fun h=>cq (hcont27 (IntKind.i64.wrap (s21+1)) (fun _=>0) h)
 intro h;cases sj h
 exact kq (hr28 (fun _=>0))
 intro h;cases sj h
 exact kq (hr28 (fun _=>0))
 refine lrc ?_ ?_
 intro v e;subst e;cases sj h;exact hr8
 intro x34 a33 e;subst e
 dsimp only at h
 conv=>lhs;whnf
 revert h
 exact fun h=>cq (hcont7 x34 (fun _=>0) h)
 intro h;cases sj h
 refine (hK6 _ _).trans ?_
 refine Eq.trans ?_ (Eq.symm (show _=some _ from hr8))
 conv=>lhs;whnf
 exact rq
 intro h;cases sj h
 exact kq (hr8 (fun _=>0))
 refine lrc ?_ ?_
 intro v e;subst e;cases sj h;rfl
 intro x37 a36 e;subst e
 dsimp only at h
 conv=>lhs;whnf
 revert h
 exact rz
theorem ok_ref01_digit {n:Nat} ⦃v0_c:Int⦄ ⦃r:Bool⦄:m_ref01_digit n v0_c=some r→CN n 48 [AV.int .u8 v0_c] []=some (bA r,[]):=by
 intro h;rcases n with _|n;cases h
 rw [m_ref01_digit] at h
 refine callN_eq' Try.func48 (by rfl) rfl rfl (Nat.le_of_ble_eq_true rfl) ?_
 intro call hc;conv=>lhs;whnf
 revert h
 refine br ?_ ?_
 exact rz
 exact rz
theorem ok_ref01_letter {n:Nat} ⦃v0_c:Int⦄ ⦃r:Bool⦄:m_ref01_letter n v0_c=some r→CN n 47 [AV.int .u8 v0_c] []=some (bA r,[]):=by
 intro h;rcases n with _|n;cases h
 rw [m_ref01_letter] at h
 refine callN_eq' Try.func47 (by rfl) rfl rfl (Nat.le_of_ble_eq_true rfl) ?_
 intro call hc;conv=>lhs;whnf
 revert h
 refine br ?_ ?_
 refine br ?_ ?_
 exact rz
 refine br ?_ ?_
 refine br ?_ ?_
 exact rz
 exact rz
 exact rz
 refine br ?_ ?_
 refine br ?_ ?_
 exact rz
 exact rz
 exact rz
theorem ok_ref01_signs {n:Nat} ⦃r:(List (List UInt8))⦄:m_ref01_signs n=some r→CN n 49 [] []=some (AV.sl 1 (List.map encS r),[]):=by
 intro h;rcases n with _|n;cases h
 rw [m_ref01_signs] at h
 refine callN_eq' Try.func49 (by rfl) rfl rfl (Nat.le_of_ble_eq_true rfl) ?_
 intro call hc;conv=>lhs;whnf
 revert h
 exact rz
theorem ok_ref01_one {n:Nat} ⦃v0_s:(List UInt8)⦄ ⦃v1_at:Int⦄ ⦃r:(S_api_Token×Int)⦄:m_ref01_one n v0_s v1_at=some r→CN n 37 [sA v0_s,iA v1_at] []=some (AV.tup [AV.agg [iA r.1.f_Kind,sA r.1.f_Text,iA r.1.f_N,iA r.1.f_At],iA r.2],[]):=by
 intro h;rcases n with _|n;cases h
 rw [m_ref01_one] at h
 refine callN_eq' Try.func37 (by rfl) rfl rfl (Nat.le_of_ble_eq_true rfl) ?_
 intro call hc;conv=>lhs;whnf
 revert h
 intro h;refine bind_some2 h ?_;clear h;intro o9 ho9 h
 refine lq (σ:=Int) (τ:=Int) (ν:=(S_api_Token×Int)) 0 (fun s1 a3=>stOf 119 [(0,sA v0_s),(1,iA v1_at),(4,AV.ptr 0 0),(6,iA s1)]) (fun s1 a3=>[Ob.var 34 [iA (0),sA (([]:List UInt8)),iA (0),iA (0)]]) (fun x21 a20=>stOf 119 [(0,sA v0_s),(1,iA v1_at),(4,AV.ptr 0 0),(6,iA x21)]) (fun x21 a20=>[Ob.var 34 [iA (0),sA (([]:List UInt8)),iA (0),iA (0)]]) (fun v=>(AV.tup [AV.agg [iA v.1.f_Kind,sA v.1.f_Text,iA v.1.f_N,iA v.1.f_At],iA v.2],[])) (fun k s=>ref01_one_L0 n v0_s v1_at k s) (fun s=>rfl) o9 n v1_at (fun _=>0) ho9 ?_ ?_
 intro k2 s1 a3 K4 cont5 hK6 hcont7 h hr8
 replace h:ref01_one_L0 n v0_s v1_at (k2+1) s1=some o9:=h
 rw [ref01_one_L0] at h
 conv=>lhs;whnf
 revert h
 refine br ?_ ?_
 refine ixs ?_;intro x11
 refine ca hc (fun _ h=>ok_ref01_letter h) ?_;intro y12
 refine br ?_ ?_
 exact fun h=>cq (hcont7 (IntKind.i64.wrap (s1+1)) (fun _=>0) h)
 refine br ?_ ?_
 refine ixs ?_;intro x16
 refine ca hc (fun _ h=>ok_ref01_digit h) ?_;intro y17
 refine br ?_ ?_
 exact fun h=>cq (hcont7 (IntKind.i64.wrap (s1+1)) (fun _=>0) h)
 intro h;cases sj h
 exact kq (hr8 (fun _=>0))
 intro h;cases sj h
 exact kq (hr8 (fun _=>0))
 intro h;cases sj h
 exact kq (hr8 (fun _=>0))
 refine lrc ?_ ?_
 intro v e;subst e;cases sj h;rfl
 intro x21 a20 e;subst e
 dsimp only at h
 conv=>lhs;whnf
 revert h
 refine br ?_ ?_
 refine br ?_ ?_
 exact rz
 refine cp ?_
 exact rz
 intro h;refine bind_some2 h ?_;clear h;intro o34 ho34 h
 refine lq (σ:=(Int×Int)) (τ:=(Int×Int)) (ν:=(S_api_Token×Int)) 2 (fun (s25,s26) a28=>stOf 119 [(0,sA v0_s),(1,iA v1_at),(4,AV.ptr 0 0),(6,iA s25),(7,iA s26)]) (fun (s25,s26) a28=>[Ob.var 34 [iA (0),sA (([]:List UInt8)),iA (0),iA (0)]]) (fun (x42,x43) a41=>stOf 119 [(0,sA v0_s),(1,iA v1_at),(4,AV.ptr 0 0),(6,iA x42),(7,iA x43)]) (fun (x42,x43) a41=>[Ob.var 34 [iA (0),sA (([]:List UInt8)),iA (0),iA (0)]]) (fun v=>(AV.tup [AV.agg [iA v.1.f_Kind,sA v.1.f_Text,iA v.1.f_N,iA v.1.f_At],iA v.2],[])) (fun k s=>ref01_one_L1 n v0_s k s.1 s.2) (fun s=>rfl) o34 n (x21,0) (fun _=>0) ho34 ?_ ?_
 intro k27 ss a28 K29 cont30 hK31 hcont32 h hr33
 obtain ⟨s25,s26⟩:=ss
 replace h:ref01_one_L1 n v0_s (k27+1) s25 s26=some o34:=h
 rw [ref01_one_L1] at h
 conv=>lhs;whnf
 revert h
 refine br ?_ ?_
 refine ixs ?_;intro x36
 refine ca hc (fun _ h=>ok_ref01_digit h) ?_;intro y37
 refine br ?_ ?_
 refine ixs ?_;intro x40
 exact fun h=>cq (hcont32 (IntKind.i64.wrap (s25+1),(if 10000<(IntKind.i64.wrap ((IntKind.i64.wrap (10 * s26))+(IntKind.i64.wrap (IntKind.u8.wrap ((x40.toNat:Int) - 48))))) then 10000 else (IntKind.i64.wrap ((IntKind.i64.wrap (10 * s26))+(IntKind.i64.wrap (IntKind.u8.wrap ((x40.toNat:Int) - 48))))))) (fun _=>0) h)
 intro h;cases sj h
 exact kq (hr33 (fun _=>0))
 intro h;cases sj h
 exact kq (hr33 (fun _=>0))
 refine lrc ?_ ?_
 intro v e;subst e;cases sj h;rfl
 intro t a41 e;subst e
 obtain ⟨x42,x43⟩:=t
 dsimp only at h
 conv=>lhs;whnf
 revert h
 refine br ?_ ?_
 refine br ?_ ?_
 exact rz
 refine cp ?_
 exact rz
 refine ca hc (fun _ h=>ok_ref01_signs h) ?_;intro y47
 intro h;refine bind_some2 h ?_;clear h;intro o57 ho57 h
 refine lq (σ:=Int) (τ:=Unit) (ν:=(S_api_Token×Int)) 4 (fun s49 a51=>stOf 119 [(0,sA v0_s),(1,iA v1_at),(4,AV.ptr 0 0),(8,AV.sl 1 (List.map encS y47)),(9,iA s49)]) (fun s49 a51=>[Ob.var 34 [iA (0),sA (([]:List UInt8)),iA (0),iA (0)]]) (fun _ a65=>stOf 119 [(4,AV.ptr 0 0)]) (fun _ a65=>[Ob.var 34 [iA (0),sA (([]:List UInt8)),iA (0),iA (0)]]) (fun v=>(AV.tup [AV.agg [iA v.1.f_Kind,sA v.1.f_Text,iA v.1.f_N,iA v.1.f_At],iA v.2],[])) (fun k s=>ref01_one_L2 n v0_s v1_at y47 k s) (fun s=>rfl) o57 n 0 (fun _=>0) ho57 ?_ ?_
 intro k50 s49 a51 K52 cont53 hK54 hcont55 h hr56
 replace h:ref01_one_L2 n v0_s v1_at y47 (k50+1) s49=some o57:=h
 rw [ref01_one_L2] at h
 conv=>lhs;whnf
 revert h
 refine br ?_ ?_
 refine ix ?_;intro x59
 refine br ?_ ?_
 refine cp ?_
 refine ix ?_;intro x62
 refine br ?_ ?_
 refine ix ?_;intro x64
 intro h;cases sj h
 refine (hK54 _ _).trans ?_
 refine Eq.trans ?_ (Eq.symm (show _=some _ from hr56))
 conv=>lhs;whnf
 exact rq
 exact fun h=>cq (hcont55 (IntKind.i64.wrap (s49+1)) (fun _=>0) h)
 exact fun h=>cq (hcont55 (IntKind.i64.wrap (s49+1)) (fun _=>0) h)
 intro h;cases sj h
 exact kq (hr56 (fun _=>0))
 refine lrc ?_ ?_
 intro v e;subst e;cases sj h;rfl
 intro t a65 e;subst e
 dsimp only at h
 conv=>lhs;whnf
 revert h
 exact rz
theorem ok_ref01_Scan {n:Nat} ⦃v0_s:(List UInt8)⦄ ⦃r:((List S_api_Token)×Int×Int)⦄:m_ref01_Scan n v0_s=some r→CN n 18 [sA v0_s] []=some (AV.tup [AV.sl 4 (List.map c_api_Token r.1),iA r.2.1,iA r.2.2],[]):=by
 intro h;rcases n with _|n;cases h
 rw [m_ref01_Scan] at h
 refine callN_eq' Try.func18 (by rfl) rfl rfl (Nat.le_of_ble_eq_true rfl) ?_
 intro call hc;conv=>lhs;whnf
 revert h
 refine br ?_ ?_
 exact rz
 refine ca hc (fun _ h=>ok_ref01_gap h) ?_;intro y2
 intro h;refine bind_some2 h ?_;clear h;intro o13 ho13 h
 refine lq (σ:=(Int×(List S_api_Token))) (τ:=(List S_api_Token)) (ν:=((List S_api_Token)×Int×Int)) 0 (fun (s4,s5) a7=>stOf 40 [(0,sA v0_s),(5,AV.row 0 (List.length s5)),(6,iA s4)]) (fun (s4,s5) a7=>[Ob.row 34 4 (List.map c_api_Token s5)]) (fun x23 a22=>stOf 40 [(5,AV.row 0 (List.length x23))]) (fun x23 a22=>[Ob.row 34 4 (List.map c_api_Token x23)]) (fun v=>(AV.tup [AV.sl 4 (List.map c_api_Token v.1),iA v.2.1,iA v.2.2],[])) (fun k s=>ref01_Scan_L0 n v0_s k s.1 s.2) (fun s=>rfl) o13 n (y2,([]:List S_api_Token)) (fun _=>0) ho13 ?_ ?_
 intro k6 ss a7 K8 cont9 hK10 hcont11 h hr12
 obtain ⟨s4,s5⟩:=ss
 replace h:ref01_Scan_L0 n v0_s (k6+1) s4 s5=some o13:=h
 rw [ref01_Scan_L0] at h
 conv=>lhs;whnf
 revert h
 refine br ?_ ?_
 refine ca hc (fun _ h=>ok_ref01_one h) ?_;intro y15
 refine br ?_ ?_
 intro h;cases sj h
 refine (hK10 _ _).trans ?_
 refine Eq.trans ?_ (Eq.symm (show _=some _ from hr12))
 conv=>lhs;whnf
 exact rq
 refine ar (ap c_api_Token (List.map c_api_Token s5) s5 ([[iA y15.1.f_Kind,sA y15.1.f_Text,iA y15.1.f_N,iA y15.1.f_At]]) ([y15.1]:List S_api_Token)) ?_
 refine cr hc (fun _ h=>ok_ref01_gap h) ?_;intro y20
 exact fun h=>cq (hcont11 (y20,(s5++([y15.1]:List S_api_Token))) (fun _=>0) h)
 intro h;cases sj h
 exact kq (hr12 (fun _=>0))
 refine lrc ?_ ?_
 intro v e;subst e;cases sj h;rfl
 intro x23 a22 e;subst e
 dsimp only at h
 conv=>lhs;whnf
 revert h
 intro h;cases sj h
 try simp only [ls]
 exact fq (y:=some (AV.tup [AV.sl 4 (List.take (List.length x23) (List.map c_api_Token x23)),iA (0),iA (0)],[]))
end Go.Proofs.Ytonhmholnneaaaa
end
section
namespace Go.Proofs.Ytonhmholnneaaaa
set_option linter.unusedVariables false
set_option linter.unusedSimpArgs false
set_option maxRecDepth 100000
set_option maxHeartbeats 4000000
theorem ok_law03_tokens {n:Nat} ⦃v0_s:(List UInt8)⦄ ⦃r:(List S_api_Token)⦄:m_law03_tokens n v0_s=some r→CN n 10 [sA v0_s] []=some (AV.sl 4 (List.map c_api_Token r),[]):=by
 intro h;rcases n with _|n;cases h
 rw [m_law03_tokens] at h
 refine callN_eq' Try.func10 (by rfl) rfl rfl (Nat.le_of_ble_eq_true rfl) ?_
 intro call hc;conv=>lhs;whnf
 revert h
 refine ca hc (fun _ h=>ok_ref01_Scan h) ?_;intro y1
 exact rz
end Go.Proofs.Ytonhmholnneaaaa
end
section
namespace Go.Proofs.Ytonhmholnneaaaa
set_option linter.unusedVariables false
set_option linter.unusedSimpArgs false
set_option maxRecDepth 100000
set_option maxHeartbeats 4000000
theorem ok_expr_kids {n:Nat} ⦃v0_op:Int⦄ ⦃r:Int⦄:m_expr_kids n v0_op=some r→CN n 65 [iA v0_op] []=some (iA r,[]):=by
 intro h;rcases n with _|n;cases h
 rw [m_expr_kids] at h
 refine callN_eq' Try.func65 (by rfl) rfl rfl (Nat.le_of_ble_eq_true rfl) ?_
 intro call hc;conv=>lhs;whnf
 revert h
 refine br ?_ ?_
 refine br ?_ ?_
 exact rz
 refine br ?_ ?_
 exact rz
 refine br ?_ ?_
 refine br ?_ ?_
 exact rz
 exact rz
 exact rz
 refine br ?_ ?_
 exact rz
 refine br ?_ ?_
 refine br ?_ ?_
 exact rz
 exact rz
 exact rz
theorem ok_expr_End {n:Nat} ⦃v0_l:(List S_api_Node)⦄ ⦃v1_i:Int⦄ ⦃r:Int⦄:m_expr_End n v0_l v1_i=some r→CN n 54 [AV.sl 5 (List.map c_api_Node v0_l),iA v1_i] []=some (iA r,[]):=by
 intro h;rcases n with _|n;cases h
 rw [m_expr_End] at h
 refine callN_eq' Try.func54 (by rfl) rfl rfl (Nat.le_of_ble_eq_true rfl) ?_
 intro call hc;conv=>lhs;whnf
 revert h
 refine br ?_ ?_
 exact rz
 intro h;refine bind_some2 h ?_;clear h;intro o11 ho11 h
 refine lq (σ:=(Int×Int)) (τ:=Unit) (ν:=Int) 0 (fun (s2,s3) a5=>stOf 31 [(0,AV.sl 5 (List.map c_api_Node v0_l)),(1,iA s2),(5,iA s3)]) (fun (s2,s3) a5=>[]) (fun _ a18=>stOf 31 []) (fun _ a18=>[]) (fun v=>(iA v,[])) (fun k s=>expr_End_L0 n v0_l k s.1 s.2) (fun s=>rfl) o11 n (v1_i,1) (fun _=>0) ho11 ?_ ?_
 intro k4 ss a5 K6 cont7 hK8 hcont9 h hr10
 obtain ⟨s2,s3⟩:=ss
 replace h:expr_End_L0 n v0_l (k4+1) s2 s3=some o11:=h
 rw [expr_End_L0] at h
 conv=>lhs;whnf
 revert h
 refine br ?_ ?_
 refine ix ?_;intro x13
 refine ca hc (fun _ h=>ok_expr_kids h) ?_;intro y14
 refine br ?_ ?_
 intro h;cases sj h
 refine (hK8 _ _).trans ?_
 refine Eq.trans ?_ (Eq.symm (show _=some _ from hr10))
 conv=>lhs;whnf
 exact rq
 refine br ?_ ?_
 intro h;cases sj h
 refine (hK8 _ _).trans ?_
 refine Eq.trans ?_ (Eq.symm (show _=some _ from hr10))
 conv=>lhs;whnf
 exact rq
 exact fun h=>cq (hcont9 (IntKind.i64.wrap (s2+1),IntKind.i64.wrap (s3+(IntKind.i64.wrap (y14 - 1)))) (fun _=>0) h)
 intro h;cases sj h
 exact kq (hr10 (fun _=>0))
 refine lrc ?_ ?_
 intro v e;subst e;cases sj h;rfl
 intro t a18 e;subst e
 dsimp only at h
 conv=>lhs;whnf
 revert h
 exact rz
theorem ok_expr_Names {n:Nat} ⦃v0_l:(List S_api_Node)⦄ ⦃r:(List S_api_Node)⦄:m_expr_Names n v0_l=some r→CN n 44 [AV.sl 5 (List.map c_api_Node v0_l)] []=some (AV.sl 5 (List.map c_api_Node r),[]):=by
 intro h;rcases n with _|n;cases h
 rw [m_expr_Names] at h
 refine callN_eq' Try.func44 (by rfl) rfl rfl (Nat.le_of_ble_eq_true rfl) ?_
 intro call hc;conv=>lhs;whnf
 revert h
 intro h;refine bind_some2 h ?_;clear h;intro o10 ho10 h
 refine lq (σ:=(Int×(List S_api_Node))) (τ:=(List S_api_Node)) (ν:=(List S_api_Node)) 0 (fun (s1,s2) a4=>stOf 24 [(3,AV.row 0 (List.length s2)),(6,AV.sl 5 (List.map c_api_Node v0_l)),(7,iA (((v0_l.length:Nat):Int))),(8,iA s1)]) (fun (s1,s2) a4=>[Ob.row 61 5 (List.map c_api_Node s2)]) (fun x23 a22=>stOf 24 [(3,AV.row 0 (List.length x23))]) (fun x23 a22=>[Ob.row 61 5 (List.map c_api_Node x23)]) (fun v=>(AV.sl 5 (List.map c_api_Node v),[])) (fun k s=>expr_Names_L0 n v0_l k s.1 s.2) (fun s=>rfl) o10 n (0,([]:List S_api_Node)) (fun _=>0) ho10 ?_ ?_
 intro k3 ss a4 K5 cont6 hK7 hcont8 h hr9
 obtain ⟨s1,s2⟩:=ss
 replace h:expr_Names_L0 n v0_l (k3+1) s1 s2=some o10:=h
 rw [expr_Names_L0] at h
 conv=>lhs;whnf
 revert h
 refine br ?_ ?_
 refine ix ?_;intro x12
 refine br ?_ ?_
 refine ar (ap c_api_Node (List.map c_api_Node s2) s2 ([[iA x12.f_Op,iA x12.f_N,sA x12.f_Name,sA x12.f_In,iA x12.f_At]]) ([x12]:List S_api_Node)) ?_
 exact fun h=>cq (hcont8 (IntKind.i64.wrap (s1+1),(s2++([x12]:List S_api_Node))) (fun _=>0) h)
 refine br ?_ ?_
 refine ar (ap c_api_Node (List.map c_api_Node s2) s2 ([[iA x12.f_Op,iA x12.f_N,sA x12.f_Name,sA x12.f_In,iA x12.f_At]]) ([x12]:List S_api_Node)) ?_
 exact fun h=>cq (hcont8 (IntKind.i64.wrap (s1+1),(s2++([x12]:List S_api_Node))) (fun _=>0) h)
 refine br ?_ ?_
 refine ar (ap c_api_Node (List.map c_api_Node s2) s2 ([[iA x12.f_Op,iA x12.f_N,sA x12.f_Name,sA x12.f_In,iA x12.f_At]]) ([x12]:List S_api_Node)) ?_
 exact fun h=>cq (hcont8 (IntKind.i64.wrap (s1+1),(s2++([x12]:List S_api_Node))) (fun _=>0) h)
 exact fun h=>cq (hcont8 (IntKind.i64.wrap (s1+1),s2) (fun _=>0) h)
 intro h;cases sj h
 exact kq (hr9 (fun _=>0))
 refine lrc ?_ ?_
 intro v e;subst e;cases sj h;rfl
 intro x23 a22 e;subst e
 dsimp only at h
 conv=>lhs;whnf
 revert h
 intro h;obtain rfl:=sj h
 try simp only [ls]
 exact fq (y:=some (AV.sl 5 (List.take (List.length x23) (List.map c_api_Node x23)),[]))
theorem ok_expr_depth {n:Nat} ⦃v0_l:(List S_api_Node)⦄ ⦃r:Int⦄:m_expr_depth n v0_l=some r→CN n 56 [AV.sl 5 (List.map c_api_Node v0_l)] []=some (iA r,[]):=by
 intro h;rcases n with _|n;cases h
 rw [m_expr_depth] at h
 refine callN_eq' Try.func56 (by rfl) rfl rfl (Nat.le_of_ble_eq_true rfl) ?_
 intro call hc;conv=>lhs;whnf
 revert h
 intro h;refine bind_some2 h ?_;clear h;intro o11 ho11 h
 refine lq (σ:=(Int×Int×(List Int))) (τ:=(Int×(List Int))) (ν:=Int) 0 (fun (s1,s2,s3) a5=>stOf 50 [(3,AV.stk 0 (a5 0) (List.length s3)),(4,iA s1),(9,AV.sl 5 (List.map c_api_Node v0_l)),(10,iA (((v0_l.length:Nat):Int))),(11,iA s2)]) (fun (s1,s2,s3) a5=>[Ob.stk (a5 0) 3 1 (List.map encI s3)]) (fun (x41,x42) a40=>stOf 50 [(4,iA x41)]) (fun (x41,x42) a40=>[Ob.stk (a40 0) 3 1 (List.map encI x42)]) (fun v=>(iA v,[])) (fun k s=>expr_depth_L0 n v0_l k s.1 s.2.1 s.2.2) (fun s=>rfl) o11 n (0,0,([]:List Int)) (fun j=>(bif Nat.beq j 0 then 0 else 0)) ho11 ?_ ?_
 intro k4 ss a5 K6 cont7 hK8 hcont9 h hr10
 obtain ⟨s1,s2,s3⟩:=ss
 replace h:expr_depth_L0 n v0_l (k4+1) s1 s2 s3=some o11:=h
 rw [expr_depth_L0] at h
 conv=>lhs;whnf
 revert h
 refine br ?_ ?_
 refine ix ?_;intro x13
 refine ca hc (fun _ h=>ok_expr_kids h) ?_;intro y14
 refine br ?_ ?_
 intro h
 refine chk_some2 h ?_;clear h;intro hc19 h
 try simp only [dec_self]
 conv=>lhs;whnf
 first|refine bif_pos (app_row hc19 (by first|rfl|simp only [List.length_map]) (by first|rfl|simp only [List.length_map]) (by first|rfl|simp only [List.length_map,take_map_len]) (by kernel_rfl)) ?_|refine bif_pos (app_row2 hc19 (by first|rfl|simp only [List.length_map]) (by first|rfl|simp only [List.length_map,take_map_len]) (by kernel_rfl)) ?_
 try simp only [lt]
 have hp17:(List.map encI s3:List (List AV))++[[iA y14]]=List.map encI (s3++([y14]:List Int)):=by first|rfl|(rw [List.map_append];rfl)|(rw [List.map_append];done)|(simp only [List.map_append,List.map_cons,List.map_nil,List.nil_append,encI]<;>rfl)
 have hl18:List.length (List.map encI s3:List (List AV))+List.length ([[iA y14]]:List (List AV))=List.length (s3++([y14]:List Int)):=by simp only [List.length_map,List.length_append]<;>rfl
 have hl18_b:List.length s3+List.length ([[iA y14]]:List (List AV))=List.length (s3++([y14]:List Int)):=by simp only [List.length_map,List.length_append]<;>rfl
 have hl18_c:List.length s3+List.length ([y14]:List Int)=List.length (s3++([y14]:List Int)):=by simp only [List.length_map,List.length_append]<;>rfl
 first|simp only [hp17,hl18]|(simp only [List.length_map,take_map_len];simp only [hp17,hl18_b,hl18_c])
 try simp only [ls]
 conv=>lhs;whnf
 revert h
 exact fun h=>cq (hcont9 ((if s1<((s3.length:Nat):Int) then ((s3.length:Nat):Int) else s1),IntKind.i64.wrap (s2+1),(s3++([y14]:List Int))) (fun j=>(bif Nat.beq j 0 then ((a5 0)+1) else 0)) h)
 intro h;refine bind_some2 h ?_;clear h;intro o28 ho28 h
 refine lq (σ:=(List Int)) (τ:=(List Int)) (ν:=Int) 2 (fun s20 a22=>stOf 50 [(3,AV.stk 0 (a22 0) (List.length s20)),(4,iA ((if s1<((s3.length:Nat):Int) then ((s3.length:Nat):Int) else s1))),(9,AV.sl 5 (List.map c_api_Node v0_l)),(10,iA (((v0_l.length:Nat):Int))),(11,iA s2)]) (fun s20 a22=>[Ob.stk (a22 0) 3 1 (List.map encI s20),Ob.var 61 [iA x13.f_Op,iA x13.f_N,sA x13.f_Name,sA x13.f_In,iA x13.f_At]]) (fun x38 a37=>stOf 50 [(3,AV.stk 0 (a37 0) (List.length x38)),(4,iA ((if s1<((s3.length:Nat):Int) then ((s3.length:Nat):Int) else s1))),(9,AV.sl 5 (List.map c_api_Node v0_l)),(10,iA (((v0_l.length:Nat):Int))),(11,iA s2)]) (fun x38 a37=>[Ob.stk (a37 0) 3 1 (List.map encI x38),Ob.var 61 [iA x13.f_Op,iA x13.f_N,sA x13.f_Name,sA x13.f_In,iA x13.f_At]]) (fun v=>(iA v,[])) (fun k s=>expr_depth_L1 n k s) (fun s=>rfl) o28 n s3 (fun j=>(bif Nat.beq j 0 then (a5 0) else 0)) ho28 ?_ ?_
 intro k21 s20 a22 K23 cont24 hK25 hcont26 h hr27
 replace h:expr_depth_L1 n (k21+1) s20=some o28:=h
 rw [expr_depth_L1] at h
 conv=>lhs;whnf
 revert h
 refine br ?_ ?_
 intro h
 refine bind_some2 h ?_;clear h;intro x30 hx30 h
 try simp only [dec_self]
 conv=>lhs;whnf
 try simp only [ls]
 refine bif_pos (by first|exact idx_in hx30|exact idx_in' hx30|exact own_in hx30|exact own_in' hx30|(have q:=idx_in hx30;simp only [List.length_set] at q;exact q)|(have q:=own_in' hx30;simp only [List.length_set,Nat.zero_add] at q ⊢;exact q)) ?_
 conv=>lhs;whnf
 try simp only [idx_nth (f:=encI) hx30,dec_self,ls]
 conv=>lhs;whnf
 revert h
 intro h
 refine bind_some2 h ?_;clear h;intro x31 hx31 h
 try simp only [dec_self]
 conv=>lhs;whnf
 try simp only [ls]
 refine bif_pos (by first|exact idx_in hx31|exact idx_in' hx31|exact own_in hx31|exact own_in' hx31|(have q:=idx_in hx31;simp only [List.length_set] at q;exact q)|(have q:=own_in' hx31;simp only [List.length_set,Nat.zero_add] at q ⊢;exact q)) ?_
 conv=>lhs;whnf
 try simp only [idx_nth (f:=encI) hx31,dec_self,ls]
 conv=>lhs;whnf
 revert h
 intro h
 have hs32:setNth (List.map encI s20) (IntKind.i64.wrap (((s20.length:Nat):Int) - 1)).toNat [iA (IntKind.i64.wrap (x30 - 1))]=List.map encI (List.set s20 (IntKind.i64.wrap (((s20.length:Nat):Int) - 1)).toNat (IntKind.i64.wrap (x30 - 1))):=by rw [setNth_eq,List.map_set];rfl
 have hs32_u:setNth (List.map encI s20) (IntKind.i64.wrap (((s20.length:Nat):Int) - 1)).toNat (updL (encI x31) 0 [iA (IntKind.i64.wrap (x30 - 1))])=List.map encI (List.set s20 (IntKind.i64.wrap (((s20.length:Nat):Int) - 1)).toNat (IntKind.i64.wrap (x30 - 1))):=by rw [setNth_eq,List.map_set];rfl
 try simp only [idx_nth (f:=encI) hx31,dec_self]
 conv=>lhs;whnf
 try simp only [hs32,hs32_u,dec_self]
 conv=>lhs;whnf
 revert h
 intro h
 refine bind_some2 h ?_;clear h;intro x33 hx33 h
 try simp only [dec_self]
 conv=>lhs;whnf
 try simp only [ls]
 refine bif_pos (by first|exact idx_in hx33|exact idx_in' hx33|exact own_in hx33|exact own_in' hx33|(have q:=idx_in hx33;simp only [List.length_set] at q;exact q)|(have q:=own_in' hx33;simp only [List.length_set,Nat.zero_add] at q ⊢;exact q)) ?_
 conv=>lhs;whnf
 try simp only [idx_nth (f:=encI) hx33,dec_self,ls]
 conv=>lhs;whnf
 revert h
 refine br ?_ ?_
 intro h;cases sj h
 exact kq (hr27 (fun j=>(bif Nat.beq j 0 then (a22 0) else 0)))
 intro h
 refine chk_some2 h ?_;clear h;intro hc36 h
 try simp only [dec_self]
 conv=>lhs;whnf
 try simp only [ls]
 first|refine bif_pos hc36 ?_|(refine bif_pos (by have q:=hc36;simp only [List.length_set] at q;exact q) ?_)
 have hs35:List.take ((IntKind.i64.wrap (((s20.length:Nat):Int) - 1)).toNat) (List.map encI (List.set s20 (IntKind.i64.wrap (((s20.length:Nat):Int) - 1)).toNat (IntKind.i64.wrap (x30 - 1))))=List.map encI (List.take ((IntKind.i64.wrap (((s20.length:Nat):Int) - 1)).toNat) (List.set s20 (IntKind.i64.wrap (((s20.length:Nat):Int) - 1)).toNat (IntKind.i64.wrap (x30 - 1)))):=by rw [List.map_take]
 have hs35_l:List.length (List.take ((IntKind.i64.wrap (((s20.length:Nat):Int) - 1)).toNat) (List.set s20 (IntKind.i64.wrap (((s20.length:Nat):Int) - 1)).toNat (IntKind.i64.wrap (x30 - 1))))=(IntKind.i64.wrap (((s20.length:Nat):Int) - 1)).toNat:=by simp only [List.length_take];exact Nat.min_eq_left (cut_le hc36)
 conv=>lhs;whnf
 try simp only [dec_self,hs35]
 conv=>lhs;whnf
 try simp only [hs35]
 have hs35_s:∀ q,AV.stk 0 q ((IntKind.i64.wrap (((s20.length:Nat):Int) - 1)).toNat)=AV.stk 0 q (List.length (List.take ((IntKind.i64.wrap (((s20.length:Nat):Int) - 1)).toNat) (List.set s20 (IntKind.i64.wrap (((s20.length:Nat):Int) - 1)).toNat (IntKind.i64.wrap (x30 - 1))))):=fun q=>by rw [hs35_l]
 try simp only [hs35_s]
 conv=>lhs;whnf
 revert h
 exact fun h=>cq (hcont26 (List.take ((IntKind.i64.wrap (((s20.length:Nat):Int) - 1)).toNat) (List.set s20 (IntKind.i64.wrap (((s20.length:Nat):Int) - 1)).toNat (IntKind.i64.wrap (x30 - 1)))) (fun j=>(bif Nat.beq j 0 then ((a22 0)+1) else 0)) h)
 intro h;cases sj h
 exact kq (hr27 (fun j=>(bif Nat.beq j 0 then (a22 0) else 0)))
 refine lrc ?_ ?_
 intro v e;subst e;cases sj h;exact hr10
 intro x38 a37 e;subst e
 dsimp only at h
 conv=>lhs;whnf
 revert h
 exact fun h=>cq (hcont9 ((if s1<((s3.length:Nat):Int) then ((s3.length:Nat):Int) else s1),IntKind.i64.wrap (s2+1),x38) (fun j=>(bif Nat.beq j 0 then (a37 0) else 0)) h)
 intro h;cases sj h
 exact kq (hr10 (fun j=>(bif Nat.beq j 0 then (a5 0) else 0)))
 refine lrc ?_ ?_
 intro v e;subst e;cases sj h;rfl
 intro t a40 e;subst e
 obtain ⟨x41,x42⟩:=t
 dsimp only at h
 conv=>lhs;whnf
 revert h
 exact rz
theorem ok_expr_node {n:Nat} ⦃v0_x:S_api_Node⦄ ⦃v1_rest:(List (List S_api_Node))⦄ ⦃r:(List S_api_Node)⦄:m_expr_node n v0_x v1_rest=some r→CN n 73 [AV.agg [iA v0_x.f_Op,iA v0_x.f_N,sA v0_x.f_Name,sA v0_x.f_In,iA v0_x.f_At],AV.sl 1 (List.map c_sl___api_Node v1_rest)] []=some (AV.sl 5 (List.map c_api_Node r),[]):=by
 intro h;rcases n with _|n;cases h
 rw [m_expr_node] at h
 refine callN_eq' Try.func73 (by rfl) rfl rfl (Nat.le_of_ble_eq_true rfl) ?_
 intro call hc;conv=>lhs;whnf
 revert h
 intro h;refine bind_some2 h ?_;clear h;intro o10 ho10 h
 refine lq (σ:=(Int×(List S_api_Node))) (τ:=(List S_api_Node)) (ν:=(List S_api_Node)) 0 (fun (s1,s2) a4=>stOf 21 [(5,AV.row 1 (List.length s2)),(10,AV.sl 1 (List.map c_sl___api_Node v1_rest)),(11,iA (((v1_rest.length:Nat):Int))),(12,iA s1)]) (fun (s1,s2) a4=>[Ob.var 61 [iA v0_x.f_Op,iA v0_x.f_N,sA v0_x.f_Name,sA v0_x.f_In,iA v0_x.f_At],Ob.row 61 5 (List.map c_api_Node s2)]) (fun x16 a15=>stOf 21 [(5,AV.row 1 (List.length x16))]) (fun x16 a15=>[Ob.var 61 [iA v0_x.f_Op,iA v0_x.f_N,sA v0_x.f_Name,sA v0_x.f_In,iA v0_x.f_At],Ob.row 61 5 (List.map c_api_Node x16)]) (fun v=>(AV.sl 5 (List.map c_api_Node v),[])) (fun k s=>expr_node_L0 n v1_rest k s.1 s.2) (fun s=>rfl) o10 n (0,([v0_x]:List S_api_Node)) (fun _=>0) ho10 ?_ ?_
 intro k3 ss a4 K5 cont6 hK7 hcont8 h hr9
 obtain ⟨s1,s2⟩:=ss
 replace h:expr_node_L0 n v1_rest (k3+1) s1 s2=some o10:=h
 rw [expr_node_L0] at h
 conv=>lhs;whnf
 revert h
 refine br ?_ ?_
 refine ix ?_;intro x12
 refine ar (ap c_api_Node (List.map c_api_Node s2) s2 (List.map c_api_Node x12) x12) ?_
 exact fun h=>cq (hcont8 (IntKind.i64.wrap (s1+1),(s2++x12)) (fun _=>0) h)
 intro h;cases sj h
 exact kq (hr9 (fun _=>0))
 refine lrc ?_ ?_
 intro v e;subst e;cases sj h;rfl
 intro x16 a15 e;subst e
 dsimp only at h
 conv=>lhs;whnf
 revert h
 intro h;obtain rfl:=sj h
 try simp only [ls]
 exact fq (y:=some (AV.sl 5 (List.take (List.length x16) (List.map c_api_Node x16)),[]))
theorem ok_expr_parser_is {n:Nat} ⦃v1_s:(List UInt8)⦄ ⦃p_l:(List S_api_Token)⦄ ⦃p_i:Int⦄ ⦃p_in:Int⦄ ⦃p_e:Int⦄ ⦃p_at:Int⦄ ⦃r:Bool⦄:m_expr_parser_is n v1_s p_l p_i p_in p_e p_at=some r→CN n 72 [AV.ptr 0 0,sA v1_s] [Ob.var 99 [AV.sl 4 (List.map c_api_Token p_l),iA p_i,iA p_in,iA p_e,iA p_at]]=some (bA r,[Ob.var 99 [AV.sl 4 (List.map c_api_Token p_l),iA p_i,iA p_in,iA p_e,iA p_at]]):=by
 intro h;rcases n with _|n;cases h
 rw [m_expr_parser_is] at h
 refine callN_eq' Try.func72 (by rfl) rfl rfl (Nat.le_of_ble_eq_true rfl) ?_
 intro call hc;conv=>lhs;whnf
 revert h
 refine br ?_ ?_
 refine ix ?_;intro x2
 refine br ?_ ?_
 refine ix ?_;intro x4
 exact rz
 exact rz
 exact rz
theorem ok_expr_parser_fail {n:Nat} ⦃v1_e:Int⦄ ⦃p_l:(List S_api_Token)⦄ ⦃p_i:Int⦄ ⦃p_in:Int⦄ ⦃p_e:Int⦄ ⦃p_at:Int⦄ ⦃r:((List S_api_Node)×Int×Int)⦄:m_expr_parser_fail n v1_e p_l p_i p_in p_e p_at=some r→CN n 79 [AV.ptr 0 0,iA v1_e] [Ob.var 99 [AV.sl 4 (List.map c_api_Token p_l),iA p_i,iA p_in,iA p_e,iA p_at]]=some (AV.sl 5 (List.map c_api_Node r.1),[Ob.var 99 [AV.sl 4 (List.map c_api_Token p_l),iA p_i,iA p_in,iA r.2.1,iA r.2.2]]):=by
 intro h;rcases n with _|n;cases h
 rw [m_expr_parser_fail] at h
 refine callN_eq' Try.func79 (by rfl) rfl rfl (Nat.le_of_ble_eq_true rfl) ?_
 intro call hc;conv=>lhs;whnf
 revert h
 refine br ?_ ?_
 exact rz
 refine br ?_ ?_
 refine ix ?_;intro x3
 exact rz
 refine br ?_ ?_
 refine br ?_ ?_
 refine ix ?_;intro x6
 refine ix ?_;intro x7
 exact rz
 exact rz
 refine br ?_ ?_
 refine ix ?_;intro x9
 refine ix ?_;intro x10
 exact rz
 exact rz
theorem ok_expr_parser_name {n:Nat} ⦃p_l:(List S_api_Token)⦄ ⦃p_i:Int⦄ ⦃p_in:Int⦄ ⦃p_e:Int⦄ ⦃p_at:Int⦄ ⦃r:((List UInt8)×Int×Bool×Int)⦄:m_expr_parser_name n p_l p_i p_in p_e p_at=some r→CN n 80 [AV.ptr 0 0] [Ob.var 99 [AV.sl 4 (List.map c_api_Token p_l),iA p_i,iA p_in,iA p_e,iA p_at]]=some (AV.tup [sA r.1,iA r.2.1,bA r.2.2.1],[Ob.var 99 [AV.sl 4 (List.map c_api_Token p_l),iA r.2.2.2,iA p_in,iA p_e,iA p_at]]):=by
 intro h;rcases n with _|n;cases h
 rw [m_expr_parser_name] at h
 refine callN_eq' Try.func80 (by rfl) rfl rfl (Nat.le_of_ble_eq_true rfl) ?_
 intro call hc;conv=>lhs;whnf
 revert h
 refine br ?_ ?_
 exact rz
 refine ix ?_;intro x2
 refine br ?_ ?_
 exact rz
 refine ix ?_;intro x4
 refine ca hc (fun _ h=>ok_scan_Name h) ?_;intro y5
 refine br ?_ ?_
 refine ix ?_;intro x8
 exact rz
 exact rz
theorem ok_expr_sign {n:Nat} ⦃v0_op:Int⦄ ⦃r:(List UInt8)⦄:m_expr_sign n v0_op=some r→CN n 67 [iA v0_op] []=some (sA r,[]):=by
 intro h;rcases n with _|n;cases h
 rw [m_expr_sign] at h
 refine callN_eq' Try.func67 (by rfl) rfl rfl (Nat.le_of_ble_eq_true rfl) ?_
 intro call hc;conv=>lhs;whnf
 revert h
 refine br ?_ ?_
 exact rz
 refine br ?_ ?_
 exact rz
 refine br ?_ ?_
 exact rz
 refine br ?_ ?_
 exact rz
 refine br ?_ ?_
 exact rz
 refine br ?_ ?_
 exact rz
 refine br ?_ ?_
 exact rz
 refine br ?_ ?_
 exact rz
 refine br ?_ ?_
 exact rz
 refine br ?_ ?_
 exact rz
 refine br ?_ ?_
 exact rz
 refine br ?_ ?_
 exact rz
 refine br ?_ ?_
 exact rz
 refine br ?_ ?_
 exact rz
 refine bt ?_
 exact rz
def OK_expr_parser_any (n:Nat):Prop:=∀ ⦃p_l:(List S_api_Token)⦄ ⦃p_i:Int⦄ ⦃p_in:Int⦄ ⦃p_e:Int⦄ ⦃p_at:Int⦄ ⦃r:((List S_api_Node)×Int×Int×Int×Int)⦄,m_expr_parser_any n p_l p_i p_in p_e p_at=some r→CN n 69 [AV.ptr 0 0] [Ob.var 99 [AV.sl 4 (List.map c_api_Token p_l),iA p_i,iA p_in,iA p_e,iA p_at]]=some (AV.sl 5 (List.map c_api_Node r.1),[Ob.var 99 [AV.sl 4 (List.map c_api_Token p_l),iA r.2.1,iA r.2.2.1,iA r.2.2.2.1,iA r.2.2.2.2]])
def OK_expr_parser_both (n:Nat):Prop:=∀ ⦃p_l:(List S_api_Token)⦄ ⦃p_i:Int⦄ ⦃p_in:Int⦄ ⦃p_e:Int⦄ ⦃p_at:Int⦄ ⦃r:((List S_api_Node)×Int×Int×Int×Int)⦄,m_expr_parser_both n p_l p_i p_in p_e p_at=some r→CN n 71 [AV.ptr 0 0] [Ob.var 99 [AV.sl 4 (List.map c_api_Token p_l),iA p_i,iA p_in,iA p_e,iA p_at]]=some (AV.sl 5 (List.map c_api_Node r.1),[Ob.var 99 [AV.sl 4 (List.map c_api_Token p_l),iA r.2.1,iA r.2.2.1,iA r.2.2.2.1,iA r.2.2.2.2]])
def OK_expr_parser_compared (n:Nat):Prop:=∀ ⦃p_l:(List S_api_Token)⦄ ⦃p_i:Int⦄ ⦃p_in:Int⦄ ⦃p_e:Int⦄ ⦃p_at:Int⦄ ⦃r:((List S_api_Node)×Int×Int×Int×Int)⦄,m_expr_parser_compared n p_l p_i p_in p_e p_at=some r→CN n 74 [AV.ptr 0 0] [Ob.var 99 [AV.sl 4 (List.map c_api_Token p_l),iA p_i,iA p_in,iA p_e,iA p_at]]=some (AV.sl 5 (List.map c_api_Node r.1),[Ob.var 99 [AV.sl 4 (List.map c_api_Token p_l),iA r.2.1,iA r.2.2.1,iA r.2.2.2.1,iA r.2.2.2.2]])
def OK_expr_parser_inner (n:Nat):Prop:=∀ ⦃p_l:(List S_api_Token)⦄ ⦃p_i:Int⦄ ⦃p_in:Int⦄ ⦃p_e:Int⦄ ⦃p_at:Int⦄ ⦃r:((List S_api_Node)×Int×Int×Int×Int)⦄,m_expr_parser_inner n p_l p_i p_in p_e p_at=some r→CN n 78 [AV.ptr 0 0,AV.func 77 [] []] [Ob.var 99 [AV.sl 4 (List.map c_api_Token p_l),iA p_i,iA p_in,iA p_e,iA p_at]]=some (AV.sl 5 (List.map c_api_Node r.1),[Ob.var 99 [AV.sl 4 (List.map c_api_Token p_l),iA r.2.1,iA r.2.2.1,iA r.2.2.2.1,iA r.2.2.2.2]])
def OK_expr_parser_inner_1 (n:Nat):Prop:=∀ ⦃p_l:(List S_api_Token)⦄ ⦃p_i:Int⦄ ⦃p_in:Int⦄ ⦃p_e:Int⦄ ⦃p_at:Int⦄ ⦃r:((List S_api_Node)×Int×Int×Int×Int)⦄,m_expr_parser_inner_1 n p_l p_i p_in p_e p_at=some r→CN n 78 [AV.ptr 0 0,AV.func 69 [] []] [Ob.var 99 [AV.sl 4 (List.map c_api_Token p_l),iA p_i,iA p_in,iA p_e,iA p_at]]=some (AV.sl 5 (List.map c_api_Node r.1),[Ob.var 99 [AV.sl 4 (List.map c_api_Token p_l),iA r.2.1,iA r.2.2.1,iA r.2.2.2.1,iA r.2.2.2.2]])
def OK_expr_parser_product (n:Nat):Prop:=∀ ⦃p_l:(List S_api_Token)⦄ ⦃p_i:Int⦄ ⦃p_in:Int⦄ ⦃p_e:Int⦄ ⦃p_at:Int⦄ ⦃r:((List S_api_Node)×Int×Int×Int×Int)⦄,m_expr_parser_product n p_l p_i p_in p_e p_at=some r→CN n 76 [AV.ptr 0 0] [Ob.var 99 [AV.sl 4 (List.map c_api_Token p_l),iA p_i,iA p_in,iA p_e,iA p_at]]=some (AV.sl 5 (List.map c_api_Node r.1),[Ob.var 99 [AV.sl 4 (List.map c_api_Token p_l),iA r.2.1,iA r.2.2.1,iA r.2.2.2.1,iA r.2.2.2.2]])
def OK_expr_parser_row (n:Nat):Prop:=∀ ⦃v2_once:Bool⦄ ⦃v3_ops:(List Int)⦄ ⦃p_l:(List S_api_Token)⦄ ⦃p_i:Int⦄ ⦃p_in:Int⦄ ⦃p_e:Int⦄ ⦃p_at:Int⦄ ⦃r:((List S_api_Node)×Int×Int×Int×Int)⦄,m_expr_parser_row n v2_once v3_ops p_l p_i p_in p_e p_at=some r→CN n 70 [AV.ptr 0 0,AV.func 71 [] [],bA v2_once,AV.sl 1 (List.map encI v3_ops)] [Ob.var 99 [AV.sl 4 (List.map c_api_Token p_l),iA p_i,iA p_in,iA p_e,iA p_at]]=some (AV.sl 5 (List.map c_api_Node r.1),[Ob.var 99 [AV.sl 4 (List.map c_api_Token p_l),iA r.2.1,iA r.2.2.1,iA r.2.2.2.1,iA r.2.2.2.2]])
def OK_expr_parser_row_1 (n:Nat):Prop:=∀ ⦃v2_once:Bool⦄ ⦃v3_ops:(List Int)⦄ ⦃p_l:(List S_api_Token)⦄ ⦃p_i:Int⦄ ⦃p_in:Int⦄ ⦃p_e:Int⦄ ⦃p_at:Int⦄ ⦃r:((List S_api_Node)×Int×Int×Int×Int)⦄,m_expr_parser_row_1 n v2_once v3_ops p_l p_i p_in p_e p_at=some r→CN n 70 [AV.ptr 0 0,AV.func 74 [] [],bA v2_once,AV.sl 1 (List.map encI v3_ops)] [Ob.var 99 [AV.sl 4 (List.map c_api_Token p_l),iA p_i,iA p_in,iA p_e,iA p_at]]=some (AV.sl 5 (List.map c_api_Node r.1),[Ob.var 99 [AV.sl 4 (List.map c_api_Token p_l),iA r.2.1,iA r.2.2.1,iA r.2.2.2.1,iA r.2.2.2.2]])
def OK_expr_parser_row_2 (n:Nat):Prop:=∀ ⦃v2_once:Bool⦄ ⦃v3_ops:(List Int)⦄ ⦃p_l:(List S_api_Token)⦄ ⦃p_i:Int⦄ ⦃p_in:Int⦄ ⦃p_e:Int⦄ ⦃p_at:Int⦄ ⦃r:((List S_api_Node)×Int×Int×Int×Int)⦄,m_expr_parser_row_2 n v2_once v3_ops p_l p_i p_in p_e p_at=some r→CN n 70 [AV.ptr 0 0,AV.func 75 [] [],bA v2_once,AV.sl 1 (List.map encI v3_ops)] [Ob.var 99 [AV.sl 4 (List.map c_api_Token p_l),iA p_i,iA p_in,iA p_e,iA p_at]]=some (AV.sl 5 (List.map c_api_Node r.1),[Ob.var 99 [AV.sl 4 (List.map c_api_Token p_l),iA r.2.1,iA r.2.2.1,iA r.2.2.2.1,iA r.2.2.2.2]])
def OK_expr_parser_row_3 (n:Nat):Prop:=∀ ⦃v2_once:Bool⦄ ⦃v3_ops:(List Int)⦄ ⦃p_l:(List S_api_Token)⦄ ⦃p_i:Int⦄ ⦃p_in:Int⦄ ⦃p_e:Int⦄ ⦃p_at:Int⦄ ⦃r:((List S_api_Node)×Int×Int×Int×Int)⦄,m_expr_parser_row_3 n v2_once v3_ops p_l p_i p_in p_e p_at=some r→CN n 70 [AV.ptr 0 0,AV.func 76 [] [],bA v2_once,AV.sl 1 (List.map encI v3_ops)] [Ob.var 99 [AV.sl 4 (List.map c_api_Token p_l),iA p_i,iA p_in,iA p_e,iA p_at]]=some (AV.sl 5 (List.map c_api_Node r.1),[Ob.var 99 [AV.sl 4 (List.map c_api_Token p_l),iA r.2.1,iA r.2.2.1,iA r.2.2.2.1,iA r.2.2.2.2]])
def OK_expr_parser_row_4 (n:Nat):Prop:=∀ ⦃v2_once:Bool⦄ ⦃v3_ops:(List Int)⦄ ⦃p_l:(List S_api_Token)⦄ ⦃p_i:Int⦄ ⦃p_in:Int⦄ ⦃p_e:Int⦄ ⦃p_at:Int⦄ ⦃r:((List S_api_Node)×Int×Int×Int×Int)⦄,m_expr_parser_row_4 n v2_once v3_ops p_l p_i p_in p_e p_at=some r→CN n 70 [AV.ptr 0 0,AV.func 77 [] [],bA v2_once,AV.sl 1 (List.map encI v3_ops)] [Ob.var 99 [AV.sl 4 (List.map c_api_Token p_l),iA p_i,iA p_in,iA p_e,iA p_at]]=some (AV.sl 5 (List.map c_api_Node r.1),[Ob.var 99 [AV.sl 4 (List.map c_api_Token p_l),iA r.2.1,iA r.2.2.1,iA r.2.2.2.1,iA r.2.2.2.2]])
def OK_expr_parser_single (n:Nat):Prop:=∀ ⦃p_l:(List S_api_Token)⦄ ⦃p_i:Int⦄ ⦃p_in:Int⦄ ⦃p_e:Int⦄ ⦃p_at:Int⦄ ⦃r:((List S_api_Node)×Int×Int×Int×Int)⦄,m_expr_parser_single n p_l p_i p_in p_e p_at=some r→CN n 77 [AV.ptr 0 0] [Ob.var 99 [AV.sl 4 (List.map c_api_Token p_l),iA p_i,iA p_in,iA p_e,iA p_at]]=some (AV.sl 5 (List.map c_api_Node r.1),[Ob.var 99 [AV.sl 4 (List.map c_api_Token p_l),iA r.2.1,iA r.2.2.1,iA r.2.2.2.1,iA r.2.2.2.2]])
def OK_expr_parser_sum (n:Nat):Prop:=∀ ⦃p_l:(List S_api_Token)⦄ ⦃p_i:Int⦄ ⦃p_in:Int⦄ ⦃p_e:Int⦄ ⦃p_at:Int⦄ ⦃r:((List S_api_Node)×Int×Int×Int×Int)⦄,m_expr_parser_sum n p_l p_i p_in p_e p_at=some r→CN n 75 [AV.ptr 0 0] [Ob.var 99 [AV.sl 4 (List.map c_api_Token p_l),iA p_i,iA p_in,iA p_e,iA p_at]]=some (AV.sl 5 (List.map c_api_Node r.1),[Ob.var 99 [AV.sl 4 (List.map c_api_Token p_l),iA r.2.1,iA r.2.2.1,iA r.2.2.2.1,iA r.2.2.2.2]])
def IH_expr_parser_any (n : Nat) : Prop := OK_expr_parser_any n ∧ OK_expr_parser_both n ∧ OK_expr_parser_compared n ∧ OK_expr_parser_inner n ∧ OK_expr_parser_inner_1 n ∧ OK_expr_parser_product n ∧ OK_expr_parser_row n ∧ OK_expr_parser_row_1 n ∧ OK_expr_parser_row_2 n ∧ OK_expr_parser_row_3 n ∧ OK_expr_parser_row_4 n ∧ OK_expr_parser_single n ∧ OK_expr_parser_sum n
theorem st_expr_parser_any (n:Nat) (ih:IH_expr_parser_any n):OK_expr_parser_any (n+1):=by
 intro p_l p_i p_in p_e p_at r h
 rw [m_expr_parser_any] at h
 refine callN_eq' Try.func69 (by rfl) rfl rfl (Nat.le_of_ble_eq_true rfl) ?_
 intro call hc;conv=>lhs;whnf
 revert h
 refine cr hc (fun y1 h=>(show CN n 70 [AV.ptr 0 0,AV.func 71 [] [],bA false,AV.sl 1 [[iA (14)]]] [Ob.var 99 [AV.sl 4 (List.map c_api_Token p_l),iA p_i,iA p_in,iA p_e,iA p_at]]=some (AV.sl 5 (List.map c_api_Node y1.1),[Ob.var 99 [AV.sl 4 (List.map c_api_Token p_l),iA y1.2.1,iA y1.2.2.1,iA y1.2.2.2.1,iA y1.2.2.2.2]]) from ih.2.2.2.2.2.2.1 (r:=y1) h)) ?_;intro y1
 exact rz
theorem st_expr_parser_both (n:Nat) (ih:IH_expr_parser_any n):OK_expr_parser_both (n+1):=by
 intro p_l p_i p_in p_e p_at r h
 rw [m_expr_parser_both] at h
 refine callN_eq' Try.func71 (by rfl) rfl rfl (Nat.le_of_ble_eq_true rfl) ?_
 intro call hc;conv=>lhs;whnf
 revert h
 refine cr hc (fun y1 h=>(show CN n 70 [AV.ptr 0 0,AV.func 74 [] [],bA false,AV.sl 1 [[iA (13)]]] [Ob.var 99 [AV.sl 4 (List.map c_api_Token p_l),iA p_i,iA p_in,iA p_e,iA p_at]]=some (AV.sl 5 (List.map c_api_Node y1.1),[Ob.var 99 [AV.sl 4 (List.map c_api_Token p_l),iA y1.2.1,iA y1.2.2.1,iA y1.2.2.2.1,iA y1.2.2.2.2]]) from ih.2.2.2.2.2.2.2.1 (r:=y1) h)) ?_;intro y1
 exact rz
theorem st_expr_parser_compared (n:Nat) (ih:IH_expr_parser_any n):OK_expr_parser_compared (n+1):=by
 intro p_l p_i p_in p_e p_at r h
 rw [m_expr_parser_compared] at h
 refine callN_eq' Try.func74 (by rfl) rfl rfl (Nat.le_of_ble_eq_true rfl) ?_
 intro call hc;conv=>lhs;whnf
 revert h
 refine cr hc (fun y1 h=>(show CN n 70 [AV.ptr 0 0,AV.func 75 [] [],bA true,AV.sl 1 [[iA (9)],[iA (10)],[iA (11)],[iA (12)]]] [Ob.var 99 [AV.sl 4 (List.map c_api_Token p_l),iA p_i,iA p_in,iA p_e,iA p_at]]=some (AV.sl 5 (List.map c_api_Node y1.1),[Ob.var 99 [AV.sl 4 (List.map c_api_Token p_l),iA y1.2.1,iA y1.2.2.1,iA y1.2.2.2.1,iA y1.2.2.2.2]]) from ih.2.2.2.2.2.2.2.2.1 (r:=y1) h)) ?_;intro y1
 exact rz
theorem st_expr_parser_inner (n:Nat) (ih:IH_expr_parser_any n):OK_expr_parser_inner (n+1):=by
 intro p_l p_i p_in p_e p_at r h
 rw [m_expr_parser_inner] at h
 refine callN_eq' Try.func78 (by rfl) rfl rfl (Nat.le_of_ble_eq_true rfl) ?_
 intro call hc;conv=>lhs;whnf
 revert h
 refine br ?_ ?_
 refine ca hc (fun _ h=>ok_expr_parser_fail h) ?_;intro y2
 exact rz
 refine ca hc (fun _ h=>ih.2.2.2.2.2.2.2.2.2.2.2.1 h) ?_;intro y4
 exact rz
theorem st_expr_parser_inner_1 (n:Nat) (ih:IH_expr_parser_any n):OK_expr_parser_inner_1 (n+1):=by
 intro p_l p_i p_in p_e p_at r h
 rw [m_expr_parser_inner_1] at h
 refine callN_eq' Try.func78 (by rfl) rfl rfl (Nat.le_of_ble_eq_true rfl) ?_
 intro call hc;conv=>lhs;whnf
 revert h
 refine br ?_ ?_
 refine ca hc (fun _ h=>ok_expr_parser_fail h) ?_;intro y2
 exact rz
 refine ca hc (fun _ h=>ih.1 h) ?_;intro y4
 exact rz
theorem st_expr_parser_product (n:Nat) (ih:IH_expr_parser_any n):OK_expr_parser_product (n+1):=by
 intro p_l p_i p_in p_e p_at r h
 rw [m_expr_parser_product] at h
 refine callN_eq' Try.func76 (by rfl) rfl rfl (Nat.le_of_ble_eq_true rfl) ?_
 intro call hc;conv=>lhs;whnf
 revert h
 refine cr hc (fun y1 h=>(show CN n 70 [AV.ptr 0 0,AV.func 77 [] [],bA false,AV.sl 1 [[iA (8)]]] [Ob.var 99 [AV.sl 4 (List.map c_api_Token p_l),iA p_i,iA p_in,iA p_e,iA p_at]]=some (AV.sl 5 (List.map c_api_Node y1.1),[Ob.var 99 [AV.sl 4 (List.map c_api_Token p_l),iA y1.2.1,iA y1.2.2.1,iA y1.2.2.2.1,iA y1.2.2.2.2]]) from ih.2.2.2.2.2.2.2.2.2.2.1 (r:=y1) h)) ?_;intro y1
 exact rz
theorem st_expr_parser_row (n:Nat) (ih:IH_expr_parser_any n):OK_expr_parser_row (n+1):=by
 intro v2_once v3_ops p_l p_i p_in p_e p_at r h
 rw [m_expr_parser_row] at h
 refine callN_eq' Try.func70 (by rfl) rfl rfl (Nat.le_of_ble_eq_true rfl) ?_
 intro call hc;conv=>lhs;whnf
 revert h
 refine ca hc (fun _ h=>ih.2.1 h) ?_;intro y1
 intro h;refine bind_some2 h ?_;clear h;intro o16 ho16 h
 refine lq (σ:=(Bool×(List S_api_Node)×Int×Int×Int×Int)) (τ:=((List S_api_Node)×Int×Int×Int×Int)) (ν:=((List S_api_Node)×Int×Int×Int×Int)) 0 (fun (s3,s4,s5,s6,s7,s8) a10=>stOf 67 [(0,AV.ptr 0 0),(1,AV.func 71 [] []),(2,bA s3),(3,AV.sl 1 (List.map encI v3_ops)),(9,AV.sl 5 (List.map c_api_Node s4))]) (fun (s3,s4,s5,s6,s7,s8) a10=>[Ob.var 99 [AV.sl 4 (List.map c_api_Token p_l),iA s5,iA s6,iA s7,iA s8]]) (fun (x46,x47,x48,x49,x50) a45=>stOf 67 [(9,AV.sl 5 (List.map c_api_Node x46))]) (fun (x46,x47,x48,x49,x50) a45=>[Ob.var 99 [AV.sl 4 (List.map c_api_Token p_l),iA x47,iA x48,iA x49,iA x50]]) (fun v=>(AV.sl 5 (List.map c_api_Node v.1),[Ob.var 99 [AV.sl 4 (List.map c_api_Token p_l),iA v.2.1,iA v.2.2.1,iA v.2.2.2.1,iA v.2.2.2.2]])) (fun k s=>expr_parser_row_L0 n (m_expr_parser_both n) v3_ops p_l k s.1 s.2.1 s.2.2.1 s.2.2.2.1 s.2.2.2.2.1 s.2.2.2.2.2) (fun s=>rfl) o16 n (v2_once,y1.1,y1.2.1,y1.2.2.1,y1.2.2.2.1,y1.2.2.2.2) (fun _=>0) ho16 ?_ ?_
 intro k9 ss a10 K11 cont12 hK13 hcont14 h hr15
 obtain ⟨s3,s4,s5,s6,s7,s8⟩:=ss
 replace h:expr_parser_row_L0 n (m_expr_parser_both n) v3_ops p_l (k9+1) s3 s4 s5 s6 s7 s8=some o16:=h
 rw [expr_parser_row_L0] at h
 conv=>lhs;whnf
 revert h
 refine br ?_ ?_
 intro h;refine bind_some2 h ?_;clear h;intro o27 ho27 h
 refine lq (σ:=(Int×Int)) (τ:=Int) (ν:=((List S_api_Node)×Int×Int×Int×Int)) 2 (fun (s18,s19) a21=>stOf 67 [(0,AV.ptr 0 0),(1,AV.func 71 [] []),(2,bA s3),(3,AV.sl 1 (List.map encI v3_ops)),(9,AV.sl 5 (List.map c_api_Node s4)),(10,iA s18),(23,AV.sl 1 (List.map encI v3_ops)),(24,iA (((v3_ops.length:Nat):Int))),(25,iA s19)]) (fun (s18,s19) a21=>[Ob.var 99 [AV.sl 4 (List.map c_api_Token p_l),iA s5,iA s6,iA s7,iA s8]]) (fun x36 a35=>stOf 67 [(0,AV.ptr 0 0),(1,AV.func 71 [] []),(2,bA s3),(3,AV.sl 1 (List.map encI v3_ops)),(9,AV.sl 5 (List.map c_api_Node s4)),(10,iA x36)]) (fun x36 a35=>[Ob.var 99 [AV.sl 4 (List.map c_api_Token p_l),iA s5,iA s6,iA s7,iA s8]]) (fun v=>(AV.sl 5 (List.map c_api_Node v.1),[Ob.var 99 [AV.sl 4 (List.map c_api_Token p_l),iA v.2.1,iA v.2.2.1,iA v.2.2.2.1,iA v.2.2.2.2]])) (fun k s=>expr_parser_row_L1 n v3_ops p_l s5 s6 s7 s8 k s.1 s.2) (fun s=>rfl) o27 n (0,0) (fun _=>0) ho27 ?_ ?_
 intro k20 ss a21 K22 cont23 hK24 hcont25 h hr26
 obtain ⟨s18,s19⟩:=ss
 replace h:expr_parser_row_L1 n v3_ops p_l s5 s6 s7 s8 (k20+1) s18 s19=some o27:=h
 rw [expr_parser_row_L1] at h
 conv=>lhs;whnf
 revert h
 refine br ?_ ?_
 refine ix ?_;intro x29
 refine ca hc (fun _ h=>ok_expr_sign h) ?_;intro y30
 refine ca hc (fun _ h=>ok_expr_parser_is h) ?_;intro y32
 refine br ?_ ?_
 exact fun h=>cq (hcont25 (x29,IntKind.i64.wrap (s19+1)) (fun _=>0) h)
 exact fun h=>cq (hcont25 (s18,IntKind.i64.wrap (s19+1)) (fun _=>0) h)
 intro h;cases sj h
 exact kq (hr26 (fun _=>0))
 refine lrc ?_ ?_
 intro v e;subst e;cases sj h;exact hr15
 intro x36 a35 e;subst e
 dsimp only at h
 conv=>lhs;whnf
 revert h
 refine br ?_ ?_
 intro h;cases sj h
 exact kq (hr15 (fun _=>0))
 refine ix ?_;intro x38
 refine ca hc (fun _ h=>ih.2.1 h) ?_;intro y39
 refine cr hc (fun y41 h=>(show CN n 73 [AV.agg [iA x36,iA (0),sA (([]:List UInt8)),sA (([]:List UInt8)),iA x38.f_At],AV.sl 1 [[AV.sl 5 (List.map c_api_Node s4)],[AV.sl 5 (List.map c_api_Node y39.1)]]] []=some (AV.sl 5 (List.map c_api_Node y41),[]) from ok_expr_node (r:=y41) h)) ?_;intro y41
 refine br ?_ ?_
 intro h;cases sj h
 exact kq (hr15 (fun _=>0))
 exact fun h=>cq (hcont14 (false,y41,y39.2.1,y39.2.2.1,y39.2.2.2.1,y39.2.2.2.2) (fun _=>0) h)
 intro h;cases sj h
 exact kq (hr15 (fun _=>0))
 refine lrc ?_ ?_
 intro v e;subst e;cases sj h;rfl
 intro t a45 e;subst e
 obtain ⟨x46,x47,x48,x49,x50⟩:=t
 dsimp only at h
 conv=>lhs;whnf
 revert h
 exact rz
theorem st_expr_parser_row_1 (n:Nat) (ih:IH_expr_parser_any n):OK_expr_parser_row_1 (n+1):=by
 intro v2_once v3_ops p_l p_i p_in p_e p_at r h
 rw [m_expr_parser_row_1] at h
 refine callN_eq' Try.func70 (by rfl) rfl rfl (Nat.le_of_ble_eq_true rfl) ?_
 intro call hc;conv=>lhs;whnf
 revert h
 refine ca hc (fun _ h=>ih.2.2.1 h) ?_;intro y1
 intro h;refine bind_some2 h ?_;clear h;intro o16 ho16 h
 refine lq (σ:=(Bool×(List S_api_Node)×Int×Int×Int×Int)) (τ:=((List S_api_Node)×Int×Int×Int×Int)) (ν:=((List S_api_Node)×Int×Int×Int×Int)) 0 (fun (s3,s4,s5,s6,s7,s8) a10=>stOf 67 [(0,AV.ptr 0 0),(1,AV.func 74 [] []),(2,bA s3),(3,AV.sl 1 (List.map encI v3_ops)),(9,AV.sl 5 (List.map c_api_Node s4))]) (fun (s3,s4,s5,s6,s7,s8) a10=>[Ob.var 99 [AV.sl 4 (List.map c_api_Token p_l),iA s5,iA s6,iA s7,iA s8]]) (fun (x46,x47,x48,x49,x50) a45=>stOf 67 [(9,AV.sl 5 (List.map c_api_Node x46))]) (fun (x46,x47,x48,x49,x50) a45=>[Ob.var 99 [AV.sl 4 (List.map c_api_Token p_l),iA x47,iA x48,iA x49,iA x50]]) (fun v=>(AV.sl 5 (List.map c_api_Node v.1),[Ob.var 99 [AV.sl 4 (List.map c_api_Token p_l),iA v.2.1,iA v.2.2.1,iA v.2.2.2.1,iA v.2.2.2.2]])) (fun k s=>expr_parser_row_1_L0 n (m_expr_parser_compared n) v3_ops p_l k s.1 s.2.1 s.2.2.1 s.2.2.2.1 s.2.2.2.2.1 s.2.2.2.2.2) (fun s=>rfl) o16 n (v2_once,y1.1,y1.2.1,y1.2.2.1,y1.2.2.2.1,y1.2.2.2.2) (fun _=>0) ho16 ?_ ?_
 intro k9 ss a10 K11 cont12 hK13 hcont14 h hr15
 obtain ⟨s3,s4,s5,s6,s7,s8⟩:=ss
 replace h:expr_parser_row_1_L0 n (m_expr_parser_compared n) v3_ops p_l (k9+1) s3 s4 s5 s6 s7 s8=some o16:=h
 rw [expr_parser_row_1_L0] at h
 conv=>lhs;whnf
 revert h
 refine br ?_ ?_
 intro h;refine bind_some2 h ?_;clear h;intro o27 ho27 h
 refine lq (σ:=(Int×Int)) (τ:=Int) (ν:=((List S_api_Node)×Int×Int×Int×Int)) 2 (fun (s18,s19) a21=>stOf 67 [(0,AV.ptr 0 0),(1,AV.func 74 [] []),(2,bA s3),(3,AV.sl 1 (List.map encI v3_ops)),(9,AV.sl 5 (List.map c_api_Node s4)),(10,iA s18),(23,AV.sl 1 (List.map encI v3_ops)),(24,iA (((v3_ops.length:Nat):Int))),(25,iA s19)]) (fun (s18,s19) a21=>[Ob.var 99 [AV.sl 4 (List.map c_api_Token p_l),iA s5,iA s6,iA s7,iA s8]]) (fun x36 a35=>stOf 67 [(0,AV.ptr 0 0),(1,AV.func 74 [] []),(2,bA s3),(3,AV.sl 1 (List.map encI v3_ops)),(9,AV.sl 5 (List.map c_api_Node s4)),(10,iA x36)]) (fun x36 a35=>[Ob.var 99 [AV.sl 4 (List.map c_api_Token p_l),iA s5,iA s6,iA s7,iA s8]]) (fun v=>(AV.sl 5 (List.map c_api_Node v.1),[Ob.var 99 [AV.sl 4 (List.map c_api_Token p_l),iA v.2.1,iA v.2.2.1,iA v.2.2.2.1,iA v.2.2.2.2]])) (fun k s=>expr_parser_row_1_L1 n v3_ops p_l s5 s6 s7 s8 k s.1 s.2) (fun s=>rfl) o27 n (0,0) (fun _=>0) ho27 ?_ ?_
 intro k20 ss a21 K22 cont23 hK24 hcont25 h hr26
 obtain ⟨s18,s19⟩:=ss
 replace h:expr_parser_row_1_L1 n v3_ops p_l s5 s6 s7 s8 (k20+1) s18 s19=some o27:=h
 rw [expr_parser_row_1_L1] at h
 conv=>lhs;whnf
 revert h
 refine br ?_ ?_
 refine ix ?_;intro x29
 refine ca hc (fun _ h=>ok_expr_sign h) ?_;intro y30
 refine ca hc (fun _ h=>ok_expr_parser_is h) ?_;intro y32
 refine br ?_ ?_
 exact fun h=>cq (hcont25 (x29,IntKind.i64.wrap (s19+1)) (fun _=>0) h)
 exact fun h=>cq (hcont25 (s18,IntKind.i64.wrap (s19+1)) (fun _=>0) h)
 intro h;cases sj h
 exact kq (hr26 (fun _=>0))
 refine lrc ?_ ?_
 intro v e;subst e;cases sj h;exact hr15
 intro x36 a35 e;subst e
 dsimp only at h
 conv=>lhs;whnf
 revert h
 refine br ?_ ?_
 intro h;cases sj h
 exact kq (hr15 (fun _=>0))
 refine ix ?_;intro x38
 refine ca hc (fun _ h=>ih.2.2.1 h) ?_;intro y39
 refine cr hc (fun y41 h=>(show CN n 73 [AV.agg [iA x36,iA (0),sA (([]:List UInt8)),sA (([]:List UInt8)),iA x38.f_At],AV.sl 1 [[AV.sl 5 (List.map c_api_Node s4)],[AV.sl 5 (List.map c_api_Node y39.1)]]] []=some (AV.sl 5 (List.map c_api_Node y41),[]) from ok_expr_node (r:=y41) h)) ?_;intro y41
 refine br ?_ ?_
 intro h;cases sj h
 exact kq (hr15 (fun _=>0))
 exact fun h=>cq (hcont14 (false,y41,y39.2.1,y39.2.2.1,y39.2.2.2.1,y39.2.2.2.2) (fun _=>0) h)
 intro h;cases sj h
 exact kq (hr15 (fun _=>0))
 refine lrc ?_ ?_
 intro v e;subst e;cases sj h;rfl
 intro t a45 e;subst e
 obtain ⟨x46,x47,x48,x49,x50⟩:=t
 dsimp only at h
 conv=>lhs;whnf
 revert h
 exact rz
theorem st_expr_parser_row_2 (n:Nat) (ih:IH_expr_parser_any n):OK_expr_parser_row_2 (n+1):=by
 intro v2_once v3_ops p_l p_i p_in p_e p_at r h
 rw [m_expr_parser_row_2] at h
 refine callN_eq' Try.func70 (by rfl) rfl rfl (Nat.le_of_ble_eq_true rfl) ?_
 intro call hc;conv=>lhs;whnf
 revert h
 refine ca hc (fun _ h=>ih.2.2.2.2.2.2.2.2.2.2.2.2 h) ?_;intro y1
 intro h;refine bind_some2 h ?_;clear h;intro o16 ho16 h
 refine lq (σ:=(Bool×(List S_api_Node)×Int×Int×Int×Int)) (τ:=((List S_api_Node)×Int×Int×Int×Int)) (ν:=((List S_api_Node)×Int×Int×Int×Int)) 0 (fun (s3,s4,s5,s6,s7,s8) a10=>stOf 67 [(0,AV.ptr 0 0),(1,AV.func 75 [] []),(2,bA s3),(3,AV.sl 1 (List.map encI v3_ops)),(9,AV.sl 5 (List.map c_api_Node s4))]) (fun (s3,s4,s5,s6,s7,s8) a10=>[Ob.var 99 [AV.sl 4 (List.map c_api_Token p_l),iA s5,iA s6,iA s7,iA s8]]) (fun (x46,x47,x48,x49,x50) a45=>stOf 67 [(9,AV.sl 5 (List.map c_api_Node x46))]) (fun (x46,x47,x48,x49,x50) a45=>[Ob.var 99 [AV.sl 4 (List.map c_api_Token p_l),iA x47,iA x48,iA x49,iA x50]]) (fun v=>(AV.sl 5 (List.map c_api_Node v.1),[Ob.var 99 [AV.sl 4 (List.map c_api_Token p_l),iA v.2.1,iA v.2.2.1,iA v.2.2.2.1,iA v.2.2.2.2]])) (fun k s=>expr_parser_row_2_L0 n (m_expr_parser_sum n) v3_ops p_l k s.1 s.2.1 s.2.2.1 s.2.2.2.1 s.2.2.2.2.1 s.2.2.2.2.2) (fun s=>rfl) o16 n (v2_once,y1.1,y1.2.1,y1.2.2.1,y1.2.2.2.1,y1.2.2.2.2) (fun _=>0) ho16 ?_ ?_
 intro k9 ss a10 K11 cont12 hK13 hcont14 h hr15
 obtain ⟨s3,s4,s5,s6,s7,s8⟩:=ss
 replace h:expr_parser_row_2_L0 n (m_expr_parser_sum n) v3_ops p_l (k9+1) s3 s4 s5 s6 s7 s8=some o16:=h
 rw [expr_parser_row_2_L0] at h
 conv=>lhs;whnf
 revert h
 refine br ?_ ?_
 intro h;refine bind_some2 h ?_;clear h;intro o27 ho27 h
 refine lq (σ:=(Int×Int)) (τ:=Int) (ν:=((List S_api_Node)×Int×Int×Int×Int)) 2 (fun (s18,s19) a21=>stOf 67 [(0,AV.ptr 0 0),(1,AV.func 75 [] []),(2,bA s3),(3,AV.sl 1 (List.map encI v3_ops)),(9,AV.sl 5 (List.map c_api_Node s4)),(10,iA s18),(23,AV.sl 1 (List.map encI v3_ops)),(24,iA (((v3_ops.length:Nat):Int))),(25,iA s19)]) (fun (s18,s19) a21=>[Ob.var 99 [AV.sl 4 (List.map c_api_Token p_l),iA s5,iA s6,iA s7,iA s8]]) (fun x36 a35=>stOf 67 [(0,AV.ptr 0 0),(1,AV.func 75 [] []),(2,bA s3),(3,AV.sl 1 (List.map encI v3_ops)),(9,AV.sl 5 (List.map c_api_Node s4)),(10,iA x36)]) (fun x36 a35=>[Ob.var 99 [AV.sl 4 (List.map c_api_Token p_l),iA s5,iA s6,iA s7,iA s8]]) (fun v=>(AV.sl 5 (List.map c_api_Node v.1),[Ob.var 99 [AV.sl 4 (List.map c_api_Token p_l),iA v.2.1,iA v.2.2.1,iA v.2.2.2.1,iA v.2.2.2.2]])) (fun k s=>expr_parser_row_2_L1 n v3_ops p_l s5 s6 s7 s8 k s.1 s.2) (fun s=>rfl) o27 n (0,0) (fun _=>0) ho27 ?_ ?_
 intro k20 ss a21 K22 cont23 hK24 hcont25 h hr26
 obtain ⟨s18,s19⟩:=ss
 replace h:expr_parser_row_2_L1 n v3_ops p_l s5 s6 s7 s8 (k20+1) s18 s19=some o27:=h
 rw [expr_parser_row_2_L1] at h
 conv=>lhs;whnf
 revert h
 refine br ?_ ?_
 refine ix ?_;intro x29
 refine ca hc (fun _ h=>ok_expr_sign h) ?_;intro y30
 refine ca hc (fun _ h=>ok_expr_parser_is h) ?_;intro y32
 refine br ?_ ?_
 exact fun h=>cq (hcont25 (x29,IntKind.i64.wrap (s19+1)) (fun _=>0) h)
 exact fun h=>cq (hcont25 (s18,IntKind.i64.wrap (s19+1)) (fun _=>0) h)
 intro h;cases sj h
 exact kq (hr26 (fun _=>0))
 refine lrc ?_ ?_
 intro v e;subst e;cases sj h;exact hr15
 intro x36 a35 e;subst e
 dsimp only at h
 conv=>lhs;whnf
 revert h
 refine br ?_ ?_
 intro h;cases sj h
 exact kq (hr15 (fun _=>0))
 refine ix ?_;intro x38
 refine ca hc (fun _ h=>ih.2.2.2.2.2.2.2.2.2.2.2.2 h) ?_;intro y39
 refine cr hc (fun y41 h=>(show CN n 73 [AV.agg [iA x36,iA (0),sA (([]:List UInt8)),sA (([]:List UInt8)),iA x38.f_At],AV.sl 1 [[AV.sl 5 (List.map c_api_Node s4)],[AV.sl 5 (List.map c_api_Node y39.1)]]] []=some (AV.sl 5 (List.map c_api_Node y41),[]) from ok_expr_node (r:=y41) h)) ?_;intro y41
 refine br ?_ ?_
 intro h;cases sj h
 exact kq (hr15 (fun _=>0))
 exact fun h=>cq (hcont14 (false,y41,y39.2.1,y39.2.2.1,y39.2.2.2.1,y39.2.2.2.2) (fun _=>0) h)
 intro h;cases sj h
 exact kq (hr15 (fun _=>0))
 refine lrc ?_ ?_
 intro v e;subst e;cases sj h;rfl
 intro t a45 e;subst e
 obtain ⟨x46,x47,x48,x49,x50⟩:=t
 dsimp only at h
 conv=>lhs;whnf
 revert h
 exact rz
theorem st_expr_parser_row_3 (n:Nat) (ih:IH_expr_parser_any n):OK_expr_parser_row_3 (n+1):=by
 intro v2_once v3_ops p_l p_i p_in p_e p_at r h
 rw [m_expr_parser_row_3] at h
 refine callN_eq' Try.func70 (by rfl) rfl rfl (Nat.le_of_ble_eq_true rfl) ?_
 intro call hc;conv=>lhs;whnf
 revert h
 refine ca hc (fun _ h=>ih.2.2.2.2.2.1 h) ?_;intro y1
 intro h;refine bind_some2 h ?_;clear h;intro o16 ho16 h
 refine lq (σ:=(Bool×(List S_api_Node)×Int×Int×Int×Int)) (τ:=((List S_api_Node)×Int×Int×Int×Int)) (ν:=((List S_api_Node)×Int×Int×Int×Int)) 0 (fun (s3,s4,s5,s6,s7,s8) a10=>stOf 67 [(0,AV.ptr 0 0),(1,AV.func 76 [] []),(2,bA s3),(3,AV.sl 1 (List.map encI v3_ops)),(9,AV.sl 5 (List.map c_api_Node s4))]) (fun (s3,s4,s5,s6,s7,s8) a10=>[Ob.var 99 [AV.sl 4 (List.map c_api_Token p_l),iA s5,iA s6,iA s7,iA s8]]) (fun (x46,x47,x48,x49,x50) a45=>stOf 67 [(9,AV.sl 5 (List.map c_api_Node x46))]) (fun (x46,x47,x48,x49,x50) a45=>[Ob.var 99 [AV.sl 4 (List.map c_api_Token p_l),iA x47,iA x48,iA x49,iA x50]]) (fun v=>(AV.sl 5 (List.map c_api_Node v.1),[Ob.var 99 [AV.sl 4 (List.map c_api_Token p_l),iA v.2.1,iA v.2.2.1,iA v.2.2.2.1,iA v.2.2.2.2]])) (fun k s=>expr_parser_row_3_L0 n (m_expr_parser_product n) v3_ops p_l k s.1 s.2.1 s.2.2.1 s.2.2.2.1 s.2.2.2.2.1 s.2.2.2.2.2) (fun s=>rfl) o16 n (v2_once,y1.1,y1.2.1,y1.2.2.1,y1.2.2.2.1,y1.2.2.2.2) (fun _=>0) ho16 ?_ ?_
 intro k9 ss a10 K11 cont12 hK13 hcont14 h hr15
 obtain ⟨s3,s4,s5,s6,s7,s8⟩:=ss
 replace h:expr_parser_row_3_L0 n (m_expr_parser_product n) v3_ops p_l (k9+1) s3 s4 s5 s6 s7 s8=some o16:=h
 rw [expr_parser_row_3_L0] at h
 conv=>lhs;whnf
 revert h
 refine br ?_ ?_
 intro h;refine bind_some2 h ?_;clear h;intro o27 ho27 h
 refine lq (σ:=(Int×Int)) (τ:=Int) (ν:=((List S_api_Node)×Int×Int×Int×Int)) 2 (fun (s18,s19) a21=>stOf 67 [(0,AV.ptr 0 0),(1,AV.func 76 [] []),(2,bA s3),(3,AV.sl 1 (List.map encI v3_ops)),(9,AV.sl 5 (List.map c_api_Node s4)),(10,iA s18),(23,AV.sl 1 (List.map encI v3_ops)),(24,iA (((v3_ops.length:Nat):Int))),(25,iA s19)]) (fun (s18,s19) a21=>[Ob.var 99 [AV.sl 4 (List.map c_api_Token p_l),iA s5,iA s6,iA s7,iA s8]]) (fun x36 a35=>stOf 67 [(0,AV.ptr 0 0),(1,AV.func 76 [] []),(2,bA s3),(3,AV.sl 1 (List.map encI v3_ops)),(9,AV.sl 5 (List.map c_api_Node s4)),(10,iA x36)]) (fun x36 a35=>[Ob.var 99 [AV.sl 4 (List.map c_api_Token p_l),iA s5,iA s6,iA s7,iA s8]]) (fun v=>(AV.sl 5 (List.map c_api_Node v.1),[Ob.var 99 [AV.sl 4 (List.map c_api_Token p_l),iA v.2.1,iA v.2.2.1,iA v.2.2.2.1,iA v.2.2.2.2]])) (fun k s=>expr_parser_row_3_L1 n v3_ops p_l s5 s6 s7 s8 k s.1 s.2) (fun s=>rfl) o27 n (0,0) (fun _=>0) ho27 ?_ ?_
 intro k20 ss a21 K22 cont23 hK24 hcont25 h hr26
 obtain ⟨s18,s19⟩:=ss
 replace h:expr_parser_row_3_L1 n v3_ops p_l s5 s6 s7 s8 (k20+1) s18 s19=some o27:=h
 rw [expr_parser_row_3_L1] at h
 conv=>lhs;whnf
 revert h
 refine br ?_ ?_
 refine ix ?_;intro x29
 refine ca hc (fun _ h=>ok_expr_sign h) ?_;intro y30
 refine ca hc (fun _ h=>ok_expr_parser_is h) ?_;intro y32
 refine br ?_ ?_
 exact fun h=>cq (hcont25 (x29,IntKind.i64.wrap (s19+1)) (fun _=>0) h)
 exact fun h=>cq (hcont25 (s18,IntKind.i64.wrap (s19+1)) (fun _=>0) h)
 intro h;cases sj h
 exact kq (hr26 (fun _=>0))
 refine lrc ?_ ?_
 intro v e;subst e;cases sj h;exact hr15
 intro x36 a35 e;subst e
 dsimp only at h
 conv=>lhs;whnf
 revert h
 refine br ?_ ?_
 intro h;cases sj h
 exact kq (hr15 (fun _=>0))
 refine ix ?_;intro x38
 refine ca hc (fun _ h=>ih.2.2.2.2.2.1 h) ?_;intro y39
 refine cr hc (fun y41 h=>(show CN n 73 [AV.agg [iA x36,iA (0),sA (([]:List UInt8)),sA (([]:List UInt8)),iA x38.f_At],AV.sl 1 [[AV.sl 5 (List.map c_api_Node s4)],[AV.sl 5 (List.map c_api_Node y39.1)]]] []=some (AV.sl 5 (List.map c_api_Node y41),[]) from ok_expr_node (r:=y41) h)) ?_;intro y41
 refine br ?_ ?_
 intro h;cases sj h
 exact kq (hr15 (fun _=>0))
 exact fun h=>cq (hcont14 (false,y41,y39.2.1,y39.2.2.1,y39.2.2.2.1,y39.2.2.2.2) (fun _=>0) h)
 intro h;cases sj h
 exact kq (hr15 (fun _=>0))
 refine lrc ?_ ?_
 intro v e;subst e;cases sj h;rfl
 intro t a45 e;subst e
 obtain ⟨x46,x47,x48,x49,x50⟩:=t
 dsimp only at h
 conv=>lhs;whnf
 revert h
 exact rz
theorem st_expr_parser_row_4 (n:Nat) (ih:IH_expr_parser_any n):OK_expr_parser_row_4 (n+1):=by
 intro v2_once v3_ops p_l p_i p_in p_e p_at r h
 rw [m_expr_parser_row_4] at h
 refine callN_eq' Try.func70 (by rfl) rfl rfl (Nat.le_of_ble_eq_true rfl) ?_
 intro call hc;conv=>lhs;whnf
 revert h
 refine ca hc (fun _ h=>ih.2.2.2.2.2.2.2.2.2.2.2.1 h) ?_;intro y1
 intro h;refine bind_some2 h ?_;clear h;intro o16 ho16 h
 refine lq (σ:=(Bool×(List S_api_Node)×Int×Int×Int×Int)) (τ:=((List S_api_Node)×Int×Int×Int×Int)) (ν:=((List S_api_Node)×Int×Int×Int×Int)) 0 (fun (s3,s4,s5,s6,s7,s8) a10=>stOf 67 [(0,AV.ptr 0 0),(1,AV.func 77 [] []),(2,bA s3),(3,AV.sl 1 (List.map encI v3_ops)),(9,AV.sl 5 (List.map c_api_Node s4))]) (fun (s3,s4,s5,s6,s7,s8) a10=>[Ob.var 99 [AV.sl 4 (List.map c_api_Token p_l),iA s5,iA s6,iA s7,iA s8]]) (fun (x46,x47,x48,x49,x50) a45=>stOf 67 [(9,AV.sl 5 (List.map c_api_Node x46))]) (fun (x46,x47,x48,x49,x50) a45=>[Ob.var 99 [AV.sl 4 (List.map c_api_Token p_l),iA x47,iA x48,iA x49,iA x50]]) (fun v=>(AV.sl 5 (List.map c_api_Node v.1),[Ob.var 99 [AV.sl 4 (List.map c_api_Token p_l),iA v.2.1,iA v.2.2.1,iA v.2.2.2.1,iA v.2.2.2.2]])) (fun k s=>expr_parser_row_4_L0 n (m_expr_parser_single n) v3_ops p_l k s.1 s.2.1 s.2.2.1 s.2.2.2.1 s.2.2.2.2.1 s.2.2.2.2.2) (fun s=>rfl) o16 n (v2_once,y1.1,y1.2.1,y1.2.2.1,y1.2.2.2.1,y1.2.2.2.2) (fun _=>0) ho16 ?_ ?_
 intro k9 ss a10 K11 cont12 hK13 hcont14 h hr15
 obtain ⟨s3,s4,s5,s6,s7,s8⟩:=ss
 replace h:expr_parser_row_4_L0 n (m_expr_parser_single n) v3_ops p_l (k9+1) s3 s4 s5 s6 s7 s8=some o16:=h
 rw [expr_parser_row_4_L0] at h
 conv=>lhs;whnf
 revert h
 refine br ?_ ?_
 intro h;refine bind_some2 h ?_;clear h;intro o27 ho27 h
 refine lq (σ:=(Int×Int)) (τ:=Int) (ν:=((List S_api_Node)×Int×Int×Int×Int)) 2 (fun (s18,s19) a21=>stOf 67 [(0,AV.ptr 0 0),(1,AV.func 77 [] []),(2,bA s3),(3,AV.sl 1 (List.map encI v3_ops)),(9,AV.sl 5 (List.map c_api_Node s4)),(10,iA s18),(23,AV.sl 1 (List.map encI v3_ops)),(24,iA (((v3_ops.length:Nat):Int))),(25,iA s19)]) (fun (s18,s19) a21=>[Ob.var 99 [AV.sl 4 (List.map c_api_Token p_l),iA s5,iA s6,iA s7,iA s8]]) (fun x36 a35=>stOf 67 [(0,AV.ptr 0 0),(1,AV.func 77 [] []),(2,bA s3),(3,AV.sl 1 (List.map encI v3_ops)),(9,AV.sl 5 (List.map c_api_Node s4)),(10,iA x36)]) (fun x36 a35=>[Ob.var 99 [AV.sl 4 (List.map c_api_Token p_l),iA s5,iA s6,iA s7,iA s8]]) (fun v=>(AV.sl 5 (List.map c_api_Node v.1),[Ob.var 99 [AV.sl 4 (List.map c_api_Token p_l),iA v.2.1,iA v.2.2.1,iA v.2.2.2.1,iA v.2.2.2.2]])) (fun k s=>expr_parser_row_4_L1 n v3_ops p_l s5 s6 s7 s8 k s.1 s.2) (fun s=>rfl) o27 n (0,0) (fun _=>0) ho27 ?_ ?_
 intro k20 ss a21 K22 cont23 hK24 hcont25 h hr26
 obtain ⟨s18,s19⟩:=ss
 replace h:expr_parser_row_4_L1 n v3_ops p_l s5 s6 s7 s8 (k20+1) s18 s19=some o27:=h
 rw [expr_parser_row_4_L1] at h
 conv=>lhs;whnf
 revert h
 refine br ?_ ?_
 refine ix ?_;intro x29
 refine ca hc (fun _ h=>ok_expr_sign h) ?_;intro y30
 refine ca hc (fun _ h=>ok_expr_parser_is h) ?_;intro y32
 refine br ?_ ?_
 exact fun h=>cq (hcont25 (x29,IntKind.i64.wrap (s19+1)) (fun _=>0) h)
 exact fun h=>cq (hcont25 (s18,IntKind.i64.wrap (s19+1)) (fun _=>0) h)
 intro h;cases sj h
 exact kq (hr26 (fun _=>0))
 refine lrc ?_ ?_
 intro v e;subst e;cases sj h;exact hr15
 intro x36 a35 e;subst e
 dsimp only at h
 conv=>lhs;whnf
 revert h
 refine br ?_ ?_
 intro h;cases sj h
 exact kq (hr15 (fun _=>0))
 refine ix ?_;intro x38
 refine ca hc (fun _ h=>ih.2.2.2.2.2.2.2.2.2.2.2.1 h) ?_;intro y39
 refine cr hc (fun y41 h=>(show CN n 73 [AV.agg [iA x36,iA (0),sA (([]:List UInt8)),sA (([]:List UInt8)),iA x38.f_At],AV.sl 1 [[AV.sl 5 (List.map c_api_Node s4)],[AV.sl 5 (List.map c_api_Node y39.1)]]] []=some (AV.sl 5 (List.map c_api_Node y41),[]) from ok_expr_node (r:=y41) h)) ?_;intro y41
 refine br ?_ ?_
 intro h;cases sj h
 exact kq (hr15 (fun _=>0))
 exact fun h=>cq (hcont14 (false,y41,y39.2.1,y39.2.2.1,y39.2.2.2.1,y39.2.2.2.2) (fun _=>0) h)
 intro h;cases sj h
 exact kq (hr15 (fun _=>0))
 refine lrc ?_ ?_
 intro v e;subst e;cases sj h;rfl
 intro t a45 e;subst e
 obtain ⟨x46,x47,x48,x49,x50⟩:=t
 dsimp only at h
 conv=>lhs;whnf
 revert h
 exact rz
theorem st_expr_parser_single (n:Nat) (ih:IH_expr_parser_any n):OK_expr_parser_single (n+1):=by
 intro p_l p_i p_in p_e p_at r h
 rw [m_expr_parser_single] at h
 refine callN_eq' Try.func77 (by rfl) rfl rfl (Nat.le_of_ble_eq_true rfl) ?_
 intro call hc;conv=>lhs;whnf
 revert h
 refine br ?_ ?_
 exact rz
 refine ca hc (fun _ h=>ok_expr_parser_is h) ?_;intro y2
 refine br ?_ ?_
 refine ix ?_;intro x5
 refine ca hc (fun _ h=>ih.2.2.2.1 h) ?_;intro y6
 refine cr hc (fun y8 h=>(show CN n 73 [AV.agg [iA (5),iA (0),sA (([]:List UInt8)),sA (([]:List UInt8)),iA x5.f_At],AV.sl 1 [[AV.sl 5 (List.map c_api_Node y6.1)]]] []=some (AV.sl 5 (List.map c_api_Node y8),[]) from ok_expr_node (r:=y8) h)) ?_;intro y8
 exact rz
 refine ca hc (fun _ h=>ok_expr_parser_is h) ?_;intro y10
 refine br ?_ ?_
 refine ca hc (fun _ h=>ih.2.2.2.2.1 h) ?_;intro y13
 refine br ?_ ?_
 refine ca hc (fun _ h=>ok_expr_parser_is h) ?_;intro y16
 refine br ?_ ?_
 exact rz
 refine ca hc (fun _ h=>ok_expr_parser_fail h) ?_;intro y19
 exact rz
 exact rz
 refine br ?_ ?_
 refine ix ?_;intro x22
 refine br ?_ ?_
 refine ix ?_;intro x24
 refine cr hc (fun y25 h=>(show CN n 73 [AV.agg [iA (1),iA x24.f_N,sA (([]:List UInt8)),sA (([]:List UInt8)),iA x24.f_At],AV.sl 1 []] []=some (AV.sl 5 (List.map c_api_Node y25),[]) from ok_expr_node (r:=y25) h)) ?_;intro y25
 exact rz
 refine ca hc (fun _ h=>ok_expr_parser_name h) ?_;intro y27
 refine br ?_ ?_
 refine ca hc (fun _ h=>ok_expr_parser_is h) ?_;intro y30
 refine br ?_ ?_
 refine ca hc (fun _ h=>ok_expr_parser_name h) ?_;intro y33
 refine br ?_ ?_
 refine cr hc (fun y36 h=>(show CN n 73 [AV.agg [iA (4),iA (0),sA y33.1,sA y27.1,iA y27.2.1],AV.sl 1 []] []=some (AV.sl 5 (List.map c_api_Node y36),[]) from ok_expr_node (r:=y36) h)) ?_;intro y36
 exact rz
 refine ca hc (fun _ h=>ok_expr_parser_fail h) ?_;intro y38
 exact rz
 refine cr hc (fun y40 h=>(show CN n 73 [AV.agg [iA (2),iA (0),sA y27.1,sA (([]:List UInt8)),iA y27.2.1],AV.sl 1 []] []=some (AV.sl 5 (List.map c_api_Node y40),[]) from ok_expr_node (r:=y40) h)) ?_;intro y40
 exact rz
 refine ca hc (fun _ h=>ok_expr_parser_fail h) ?_;intro y42
 exact rz
 refine ca hc (fun _ h=>ok_expr_parser_name h) ?_;intro y44
 refine br ?_ ?_
 refine ca hc (fun _ h=>ok_expr_parser_is h) ?_;intro y47
 refine br ?_ ?_
 refine ca hc (fun _ h=>ok_expr_parser_name h) ?_;intro y50
 refine br ?_ ?_
 refine cr hc (fun y53 h=>(show CN n 73 [AV.agg [iA (4),iA (0),sA y50.1,sA y44.1,iA y44.2.1],AV.sl 1 []] []=some (AV.sl 5 (List.map c_api_Node y53),[]) from ok_expr_node (r:=y53) h)) ?_;intro y53
 exact rz
 refine ca hc (fun _ h=>ok_expr_parser_fail h) ?_;intro y55
 exact rz
 refine cr hc (fun y57 h=>(show CN n 73 [AV.agg [iA (2),iA (0),sA y44.1,sA (([]:List UInt8)),iA y44.2.1],AV.sl 1 []] []=some (AV.sl 5 (List.map c_api_Node y57),[]) from ok_expr_node (r:=y57) h)) ?_;intro y57
 exact rz
 refine ca hc (fun _ h=>ok_expr_parser_fail h) ?_;intro y59
 exact rz
theorem st_expr_parser_sum (n:Nat) (ih:IH_expr_parser_any n):OK_expr_parser_sum (n+1):=by
 intro p_l p_i p_in p_e p_at r h
 rw [m_expr_parser_sum] at h
 refine callN_eq' Try.func75 (by rfl) rfl rfl (Nat.le_of_ble_eq_true rfl) ?_
 intro call hc;conv=>lhs;whnf
 revert h
 refine cr hc (fun y1 h=>(show CN n 70 [AV.ptr 0 0,AV.func 76 [] [],bA false,AV.sl 1 [[iA (6)],[iA (7)]]] [Ob.var 99 [AV.sl 4 (List.map c_api_Token p_l),iA p_i,iA p_in,iA p_e,iA p_at]]=some (AV.sl 5 (List.map c_api_Node y1.1),[Ob.var 99 [AV.sl 4 (List.map c_api_Token p_l),iA y1.2.1,iA y1.2.2.1,iA y1.2.2.2.1,iA y1.2.2.2.2]]) from ih.2.2.2.2.2.2.2.2.2.1 (r:=y1) h)) ?_;intro y1
 exact rz
theorem all_expr_parser_any : ∀ n, IH_expr_parser_any n
  | 0 => ⟨by unfold OK_expr_parser_any; intros; rename_i h; exact absurd h (by intro h; cases h), by unfold OK_expr_parser_both; intros; rename_i h; exact absurd h (by intro h; cases h), by unfold OK_expr_parser_compared; intros; rename_i h; exact absurd h (by intro h; cases h), by unfold OK_expr_parser_inner; intros; rename_i h; exact absurd h (by intro h; cases h), by unfold OK_expr_parser_inner_1; intros; rename_i h; exact absurd h (by intro h; cases h), by unfold OK_expr_parser_product; intros; rename_i h; exact absurd h (by intro h; cases h), by unfold OK_expr_parser_row; intros; rename_i h; exact absurd h (by intro h; cases h), by unfold OK_expr_parser_row_1; intros; rename_i h; exact absurd h (by intro h; cases h), by unfold OK_expr_parser_row_2; intros; rename_i h; exact absurd h (by intro h; cases h), by unfold OK_expr_parser_row_3; intros; rename_i h; exact absurd h (by intro h; cases h), by unfold OK_expr_parser_row_4; intros; rename_i h; exact absurd h (by intro h; cases h), by unfold OK_expr_parser_single; intros; rename_i h; exact absurd h (by intro h; cases h), by unfold OK_expr_parser_sum; intros; rename_i h; exact absurd h (by intro h; cases h)⟩
  | n + 1 => have ih := all_expr_parser_any n
    ⟨st_expr_parser_any n ih, st_expr_parser_both n ih, st_expr_parser_compared n ih, st_expr_parser_inner n ih, st_expr_parser_inner_1 n ih, st_expr_parser_product n ih, st_expr_parser_row n ih, st_expr_parser_row_1 n ih, st_expr_parser_row_2 n ih, st_expr_parser_row_3 n ih, st_expr_parser_row_4 n ih, st_expr_parser_single n ih, st_expr_parser_sum n ih⟩
theorem ok_expr_parser_any {n : Nat} : OK_expr_parser_any n := (all_expr_parser_any n).1
theorem ok_expr_Parse {n:Nat} ⦃v0_l:(List S_api_Token)⦄ ⦃v1_i:Int⦄ ⦃r:((List S_api_Node)×Int×Int×Int)⦄:m_expr_Parse n v0_l v1_i=some r→CN n 68 [AV.sl 4 (List.map c_api_Token v0_l),iA v1_i] []=some (AV.tup [AV.sl 5 (List.map c_api_Node r.1),iA r.2.1,iA r.2.2.1,iA r.2.2.2],[]):=by
 intro h;rcases n with _|n;cases h
 rw [m_expr_Parse] at h
 refine callN_eq' Try.func68 (by rfl) rfl rfl (Nat.le_of_ble_eq_true rfl) ?_
 intro call hc;conv=>lhs;whnf
 revert h
 refine br ?_ ?_
 exact rz
 refine ca hc (fun _ h=>ok_expr_parser_any h) ?_;intro y2
 refine br ?_ ?_
 exact rz
 refine ca hc (fun _ h=>ok_expr_depth h) ?_;intro y5
 refine br ?_ ?_
 refine ix ?_;intro x8
 exact rz
 refine br ?_ ?_
 refine ix ?_;intro x10
 exact rz
 exact rz
end Go.Proofs.Ytonhmholnneaaaa
end
section
namespace Go.Proofs.Ytonhmholnneaaaa
set_option linter.unusedVariables false
set_option linter.unusedSimpArgs false
set_option maxRecDepth 100000
set_option maxHeartbeats 4000000
theorem ok_expr_fits {n:Nat} ⦃v0_x:S_api_Node⦄ ⦃r:Bool⦄:m_expr_fits n v0_x=some r→CN n 55 [AV.agg [iA v0_x.f_Op,iA v0_x.f_N,sA v0_x.f_Name,sA v0_x.f_In,iA v0_x.f_At]] []=some (bA r,[]):=by
 intro h;rcases n with _|n;cases h
 rw [m_expr_fits] at h
 refine callN_eq' Try.func55 (by rfl) rfl rfl (Nat.le_of_ble_eq_true rfl) ?_
 intro call hc;conv=>lhs;whnf
 revert h
 refine br ?_ ?_
 exact rz
 refine br ?_ ?_
 intro h
 have hf5:flatT Try.prog 61=some (fieldsOf Try.prog 61):=by kernel_rfl
 simp only [hf5,List.length_map,take_map_len]
 conv=>lhs;whnf
 revert h
 refine br ?_ ?_
 refine br ?_ ?_
 exact rz
 exact rz
 exact rz
 refine br ?_ ?_
 refine ca hc (fun _ h=>ok_scan_Name h) ?_;intro y7
 refine br ?_ ?_
 intro h
 have hf13:flatT Try.prog 61=some (fieldsOf Try.prog 61):=by kernel_rfl
 simp only [hf13,List.length_map,take_map_len]
 conv=>lhs;whnf
 revert h
 refine br ?_ ?_
 refine ca hc (fun _ h=>ok_scan_Name h) ?_;intro y11
 exact rz
 exact rz
 exact rz
 refine br ?_ ?_
 intro h
 have hf18:flatT Try.prog 61=some (fieldsOf Try.prog 61):=by kernel_rfl
 simp only [hf18,List.length_map,take_map_len]
 conv=>lhs;whnf
 revert h
 refine br ?_ ?_
 refine ca hc (fun _ h=>ok_scan_Name h) ?_;intro y16
 exact rz
 exact rz
 refine br ?_ ?_
 intro h
 have hf23:flatT Try.prog 61=some (fieldsOf Try.prog 61):=by kernel_rfl
 simp only [hf23,List.length_map,take_map_len]
 conv=>lhs;whnf
 revert h
 refine br ?_ ?_
 refine ca hc (fun _ h=>ok_scan_Name h) ?_;intro y21
 exact rz
 exact rz
 intro h
 have hf24:flatT Try.prog 61=some (fieldsOf Try.prog 61):=by kernel_rfl
 simp only [hf24,List.length_map,take_map_len]
 conv=>lhs;whnf
 revert h
 exact rz
theorem ok_expr_Right {n:Nat} ⦃v0_l:(List S_api_Node)⦄ ⦃r:Bool⦄:m_expr_Right n v0_l=some r→CN n 45 [AV.sl 5 (List.map c_api_Node v0_l)] []=some (bA r,[]):=by
 intro h;rcases n with _|n;cases h
 rw [m_expr_Right] at h
 refine callN_eq' Try.func45 (by rfl) rfl rfl (Nat.le_of_ble_eq_true rfl) ?_
 intro call hc;conv=>lhs;whnf
 revert h
 refine br ?_ ?_
 exact rz
 refine br ?_ ?_
 exact rz
 refine ca hc (fun _ h=>ok_expr_End h) ?_;intro y3
 refine br ?_ ?_
 exact rz
 intro h;refine bind_some2 h ?_;clear h;intro o14 ho14 h
 refine lq (σ:=Int) (τ:=Unit) (ν:=Bool) 0 (fun s6 a8=>stOf 33 [(0,AV.sl 5 (List.map c_api_Node v0_l)),(20,AV.sl 5 (List.map c_api_Node v0_l)),(21,iA (((v0_l.length:Nat):Int))),(22,iA s6)]) (fun s6 a8=>[]) (fun _ a20=>stOf 33 [(0,AV.sl 5 (List.map c_api_Node v0_l))]) (fun _ a20=>[]) (fun v=>(bA v,[])) (fun k s=>expr_Right_L0 n v0_l k s) (fun s=>rfl) o14 n 0 (fun _=>0) ho14 ?_ ?_
 intro k7 s6 a8 K9 cont10 hK11 hcont12 h hr13
 replace h:expr_Right_L0 n v0_l (k7+1) s6=some o14:=h
 rw [expr_Right_L0] at h
 conv=>lhs;whnf
 revert h
 refine br ?_ ?_
 refine ix ?_;intro x16
 refine ca hc (fun _ h=>ok_expr_fits h) ?_;intro y17
 refine br ?_ ?_
 exact fun h=>cq (hcont12 (IntKind.i64.wrap (s6+1)) (fun _=>0) h)
 intro h;cases sj h
 refine (hK11 _ _).trans ?_
 refine Eq.trans ?_ (Eq.symm (show _=some _ from hr13))
 conv=>lhs;whnf
 exact rq
 intro h;cases sj h
 exact kq (hr13 (fun _=>0))
 refine lrc ?_ ?_
 intro v e;subst e;cases sj h;rfl
 intro t a20 e;subst e
 dsimp only at h
 conv=>lhs;whnf
 revert h
 refine ca hc (fun _ h=>ok_expr_depth h) ?_;intro y21
 exact rz
def OK_expr_decimal (n:Nat):Prop:=∀ ⦃v0_n:Int⦄ ⦃r:(List UInt8)⦄,m_expr_decimal n v0_n=some r→CN n 66 [iA v0_n] []=some (sA r,[])
def IH_expr_decimal (n : Nat) : Prop := OK_expr_decimal n
theorem st_expr_decimal (n:Nat) (ih:IH_expr_decimal n):OK_expr_decimal (n+1):=by
 intro v0_n r h
 rw [m_expr_decimal] at h
 refine callN_eq' Try.func66 (by rfl) rfl rfl (Nat.le_of_ble_eq_true rfl) ?_
 intro call hc;conv=>lhs;whnf
 revert h
 refine br ?_ ?_
 exact rz
 refine ca hc (fun _ h=>ih h) ?_;intro y2
 intro h
 refine chk_some2 h ?_;clear h;intro hc4 h
 refine bif_pos hc4 ?_
 try simp only [ls]
 conv=>lhs;whnf
 revert h
 exact rz
theorem all_expr_decimal : ∀ n, IH_expr_decimal n
  | 0 => by unfold IH_expr_decimal OK_expr_decimal; intros; rename_i h; exact absurd h (by intro h; cases h)
  | n + 1 => have ih := all_expr_decimal n
    st_expr_decimal n ih
theorem ok_expr_decimal {n : Nat} : OK_expr_decimal n := (all_expr_decimal n)
def OK_expr_shown (n:Nat):Prop:=∀ ⦃v0_l:(List S_api_Node)⦄ ⦃v1_i:Int⦄ ⦃v2_operand:Bool⦄ ⦃r:((List UInt8)×Int)⦄,m_expr_shown n v0_l v1_i v2_operand=some r→CN n 57 [AV.sl 5 (List.map c_api_Node v0_l),iA v1_i,bA v2_operand] []=some (AV.tup [sA r.1,iA r.2],[])
def IH_expr_shown (n : Nat) : Prop := OK_expr_shown n
theorem st_expr_shown (n:Nat) (ih:IH_expr_shown n):OK_expr_shown (n+1):=by
 intro v0_l v1_i v2_operand r h
 rw [m_expr_shown] at h
 refine callN_eq' Try.func57 (by rfl) rfl rfl (Nat.le_of_ble_eq_true rfl) ?_
 intro call hc;conv=>lhs;whnf
 revert h
 refine ix ?_;intro x1
 refine br ?_ ?_
 refine ca hc (fun _ h=>ok_expr_decimal h) ?_;intro y3
 exact rz
 refine br ?_ ?_
 exact rz
 refine br ?_ ?_
 exact rz
 refine br ?_ ?_
 intro h
 refine chk_some2 h ?_;clear h;intro hc8 h
 refine bif_pos hc8 ?_
 try simp only [ls]
 conv=>lhs;whnf
 revert h
 intro h
 refine chk_some2 h ?_;clear h;intro hc9 h
 refine bif_pos hc9 ?_
 try simp only [ls]
 conv=>lhs;whnf
 revert h
 exact rz
 refine br ?_ ?_
 refine ca hc (fun _ h=>ih h) ?_;intro y11
 refine ca hc (fun _ h=>ok_expr_sign h) ?_;intro y13
 intro h
 refine chk_some2 h ?_;clear h;intro hc15 h
 refine bif_pos hc15 ?_
 try simp only [ls]
 conv=>lhs;whnf
 revert h
 exact rz
 refine ca hc (fun _ h=>ih h) ?_;intro y16
 refine ca hc (fun _ h=>ih h) ?_;intro y18
 intro h
 refine chk_some2 h ?_;clear h;intro hc20 h
 refine bif_pos hc20 ?_
 try simp only [ls]
 conv=>lhs;whnf
 revert h
 refine ca hc (fun _ h=>ok_expr_sign h) ?_;intro y21
 intro h
 refine chk_some2 h ?_;clear h;intro hc23 h
 refine bif_pos hc23 ?_
 try simp only [ls]
 conv=>lhs;whnf
 revert h
 intro h
 refine chk_some2 h ?_;clear h;intro hc24 h
 refine bif_pos hc24 ?_
 try simp only [ls]
 conv=>lhs;whnf
 revert h
 intro h
 refine chk_some2 h ?_;clear h;intro hc25 h
 refine bif_pos hc25 ?_
 try simp only [ls]
 conv=>lhs;whnf
 revert h
 refine br ?_ ?_
 intro h
 refine chk_some2 h ?_;clear h;intro hc27 h
 refine bif_pos hc27 ?_
 try simp only [ls]
 conv=>lhs;whnf
 revert h
 intro h
 refine chk_some2 h ?_;clear h;intro hc28 h
 refine bif_pos hc28 ?_
 try simp only [ls]
 conv=>lhs;whnf
 revert h
 exact rz
 exact rz
theorem all_expr_shown : ∀ n, IH_expr_shown n
  | 0 => by unfold IH_expr_shown OK_expr_shown; intros; rename_i h; exact absurd h (by intro h; cases h)
  | n + 1 => have ih := all_expr_shown n
    st_expr_shown n ih
theorem ok_expr_shown {n : Nat} : OK_expr_shown n := (all_expr_shown n)
theorem ok_expr_Show {n:Nat} ⦃v0_l:(List S_api_Node)⦄ ⦃r:(List UInt8)⦄:m_expr_Show n v0_l=some r→CN n 46 [AV.sl 5 (List.map c_api_Node v0_l)] []=some (sA r,[]):=by
 intro h;rcases n with _|n;cases h
 rw [m_expr_Show] at h
 refine callN_eq' Try.func46 (by rfl) rfl rfl (Nat.le_of_ble_eq_true rfl) ?_
 intro call hc;conv=>lhs;whnf
 revert h
 refine ca hc (fun _ h=>ok_expr_Right h) ?_;intro y1
 refine br ?_ ?_
 refine ca hc (fun _ h=>ok_expr_shown h) ?_;intro y4
 exact rz
 exact rz
end Go.Proofs.Ytonhmholnneaaaa
end
