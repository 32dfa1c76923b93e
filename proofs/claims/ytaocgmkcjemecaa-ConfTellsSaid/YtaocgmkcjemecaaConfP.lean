/- Stores and configurations in plain words. Parts of the proofs of the laws. Conditions: none. -/
import Derived.Test.YtaocgmkcjemecaaMD
import Derived.Test.YtaocgmkcjemecaaSimP
namespace Go.Proofs.Ytaocgmkcjemecaa
set_option linter.unusedVariables false
set_option linter.unusedSimpArgs false

/-- How many entries of a location stand from a place on. -/
def cntB (b : List EntryS) (loc : Int) : Nat := (b.filter fun x => x.loc == loc).length
theorem cnt_L (n : Nat) (b : List EntryS) (loc : Int) : ∀ (m k i c : Nat), i + m = b.length → m < k → b.length < 1000000 → m + c < 1000001 → store_count_L0 n b loc k (c : Int) (i : Int) = some (.out ((c + cntB (b.drop i) loc : Nat) : Int)) := by
  intro m
  induction m with
  | zero =>
    intro k i c hi hk hb hc
    obtain ⟨k, rfl⟩ : ∃ j, k = j + 1 := ⟨k - 1, by omega⟩
    have hd : b.drop i = [] := List.drop_of_length_le (by omega)
    have hge : ¬ ((i : Int) < (b.length : Int)) := by omega
    rw [store_count_L0, bif_not hge, hd]
    rfl
  | succ m ih =>
    intro k i c hi hk hb hc
    obtain ⟨k, rfl⟩ : ∃ j, k = j + 1 := ⟨k - 1, by omega⟩
    have hlt : i < b.length := by omega
    have hlt' : (i : Int) < (b.length : Int) := by omega
    rw [store_count_L0, bif_decide hlt', idx_get hlt, List.drop_eq_getElem_cons hlt]
    have w1 := wrap_one i (by omega)
    have w2 := wrap_one c (by omega)
    simp only [Option.bind_some, w1, w2]
    cases hx : (b[i].loc == loc) with
    | true => simp only [cond_true]; rw [ih k (i + 1) (c + 1) (by omega) (by omega) hb (by omega)]; simp only [cntB, List.filter_cons, hx, if_true, List.length_cons]; congr 2; omega
    | false => simp only [cond_false]; rw [ih k (i + 1) c (by omega) (by omega) hb (by omega)]; simp only [cntB, List.filter_cons, hx, Bool.false_eq_true, if_false]
theorem cnt_m (n : Nat) (b : List EntryS) (loc : Int) (h : b.length + 2 < n) (hb : b.length < 1000000) : m_store_count n b loc = some (cntB b loc : Int) := by
  obtain ⟨n, rfl⟩ : ∃ j, n = j + 1 := ⟨n - 1, by omega⟩
  have := cnt_L n b loc b.length n 0 0 (by omega) (by omega) hb (by omega)
  rw [m_store_count, show (0 : Int) = ((0 : Nat) : Int) from rfl, this]
  simp
theorem cnt_same (n : Nat) (b : List EntryS) (loc : Int) : ∀ (k : Nat) (i c : Int), ref08_count_L0 n b loc k c i = store_count_L0 n b loc k c i := by
  intro k
  induction k with
  | zero => intro i c; rfl
  | succ k ih => intro i c; simp only [ref08_count_L0, store_count_L0, ih]
theorem cnt_ref (n : Nat) (b : List EntryS) (loc : Int) : m_ref08_count n b loc = m_store_count n b loc := by
  cases n with
  | zero => rfl
  | succ n => simp only [m_ref08_count, m_store_count, cnt_same]

/-- Is an entry right, at its place? -/
def entOk (b : List EntryS) (model room mod locs : Int) (i : Nat) : Bool := match b[i]? with
  | none => false
  | some x => !decide (x.loc < 0) && !decide (locs ≤ x.loc) && !decide (x.n < 0) && !decide (mod ≤ x.n) && (!(model == 3) || ((!decide (0 < i) || match b[i - 1]? with | some y => !decide (x.loc < y.loc) | none => false) && !decide (room < (cntB b x.loc : Int))))
def entsOk (b : List EntryS) (model room mod locs : Int) : Bool := (List.range' 0 b.length).all (entOk b model room mod locs)
def endOk (b : List EntryS) (model room : Int) : Bool := if model = 1 then b.length == 0 else if model = 2 then decide ((b.length : Int) ≤ room) else decide (model = 3)
def numsOk (room mod : Int) : Bool := !decide (room < 1) && !decide (4 < room) && !decide (mod < 2) && !decide (16 < mod)
def bufOk (b : List EntryS) (model room mod locs : Int) : Bool := numsOk room mod && entsOk b model room mod locs && endOk b model room

theorem sright_L (n : Nat) (b : List EntryS) (model room mod locs : Int) (hn : b.length + 3 < n) (hb : b.length < 1000000) {k : Nat} (hk : b.length < k) : store_Right_L0 n b model room mod locs k 0 = some (bif entsOk b model room mod locs then .out () else .ret false) := by
  refine all_loop0 (L := fun k i => store_Right_L0 n b model room mod locs k i) b.length _ (fun k i hi => ?_) (fun k => ?_) hk
  · have hlen : (i : Int) < (b.length : Int) := by omega
    have hw := wrap_one i (by omega)
    simp only [store_Right_L0, bif_decide hlen, idx_get hi, Option.bind_some, hw, entOk, List.getElem?_eq_getElem hi, cnt_m n b _ (by omega) hb]
    by_cases h0 : 0 < i
    · have hp := wrap_pred i h0 (by omega)
      have h0' : (0 : Int) < (i : Int) := by omega
      simp only [hp, idx_get (show i - 1 < b.length by omega), List.getElem?_eq_getElem (show i - 1 < b.length by omega), Option.bind_some, decide_eq_true h0, decide_eq_true h0']
      cases decide (b[i].loc < 0) <;> cases decide (locs ≤ b[i].loc) <;> cases decide (b[i].n < 0) <;> cases decide (mod ≤ b[i].n) <;> cases (model == 3) <;> cases decide (b[i].loc < b[i - 1].loc) <;> cases decide (room < (cntB b b[i].loc : Int)) <;> rfl
    · have h0' : ¬ (0 : Int) < (i : Int) := by omega
      simp only [decide_eq_false h0, decide_eq_false h0']
      cases decide (b[i].loc < 0) <;> cases decide (locs ≤ b[i].loc) <;> cases decide (b[i].n < 0) <;> cases decide (mod ≤ b[i].n) <;> cases (model == 3) <;> cases decide (room < (cntB b b[i].loc : Int)) <;> rfl
  · simp only [store_Right_L0, bif_not (Int.lt_irrefl _)]
theorem sright_m (n : Nat) (b : List EntryS) (model room mod locs : Int) (hn : b.length + 4 < n) (hb : b.length < 1000000) : m_store_Right n b model room mod locs = some (bufOk b model room mod locs) := by
  obtain ⟨n, rfl⟩ : ∃ j, n = j + 1 := ⟨n - 1, by omega⟩
  simp only [m_store_Right, sright_L n b model room mod locs (by omega) hb (by omega : b.length < n), bufOk, numsOk, Option.bind_some]
  cases decide (room < 1) <;> try rfl
  cases decide (4 < room) <;> try rfl
  cases decide (mod < 2) <;> try rfl
  cases decide (16 < mod) <;> try rfl
  cases entsOk b model room mod locs <;> try rfl
  simp only [cond_false, cond_true, endOk]
  by_cases h1 : model = 1
  · subst h1; simp [natEq0]
  · have e1 : (model == 1) = false := beq_eq_false_iff_ne.2 h1
    rw [e1, if_neg h1]
    by_cases h2 : model = 2
    · subst h2; simp
    · have e2 : (model == 2) = false := beq_eq_false_iff_ne.2 h2
      rw [e2, if_neg h2]
      by_cases h3 : model = 3
      · subst h3; simp
      · have e3 : (model == 3) = false := beq_eq_false_iff_ne.2 h3
        rw [e3, decide_eq_false h3]; rfl
theorem rright_L (n : Nat) (b : List EntryS) (model room mod locs : Int) (hn : b.length + 3 < n) (hb : b.length < 1000000) {k : Nat} (hk : b.length < k) : ref08_Right_L0 n b model room mod locs k 0 = some (bif entsOk b model room mod locs then .out () else .ret false) := by
  refine all_loop0 (L := fun k i => ref08_Right_L0 n b model room mod locs k i) b.length _ (fun k i hi => ?_) (fun k => ?_) hk
  · have hlen : (i : Int) < (b.length : Int) := by omega
    have hw := wrap_one i (by omega)
    simp only [ref08_Right_L0, bif_decide hlen, idx_get hi, Option.bind_some, hw, entOk, List.getElem?_eq_getElem hi, cnt_ref, cnt_m n b _ (by omega) hb]
    by_cases h0 : 0 < i
    · have hp := wrap_pred i h0 (by omega)
      have h0' : (0 : Int) < (i : Int) := by omega
      simp only [hp, idx_get (show i - 1 < b.length by omega), List.getElem?_eq_getElem (show i - 1 < b.length by omega), Option.bind_some, decide_eq_true h0, decide_eq_true h0']
      cases decide (b[i].loc < 0) <;> cases decide (locs ≤ b[i].loc) <;> cases decide (b[i].n < 0) <;> cases decide (mod ≤ b[i].n) <;> cases (model == 3) <;> cases decide (b[i].loc < b[i - 1].loc) <;> cases decide (room < (cntB b b[i].loc : Int)) <;> rfl
    · have h0' : ¬ (0 : Int) < (i : Int) := by omega
      simp only [decide_eq_false h0, decide_eq_false h0']
      cases decide (b[i].loc < 0) <;> cases decide (locs ≤ b[i].loc) <;> cases decide (b[i].n < 0) <;> cases decide (mod ≤ b[i].n) <;> cases (model == 3) <;> cases decide (room < (cntB b b[i].loc : Int)) <;> rfl
  · simp only [ref08_Right_L0, bif_not (Int.lt_irrefl _)]
/-- The document's way to say it. -/
theorem rright_m (n : Nat) (b : List EntryS) (model room mod locs : Int) (hn : b.length + 4 < n) (hb : b.length < 1000000) : m_ref08_Right n b model room mod locs = some (bufOk b model room mod locs) := by
  obtain ⟨n, rfl⟩ : ∃ j, n = j + 1 := ⟨n - 1, by omega⟩
  simp only [m_ref08_Right, rright_L n b model room mod locs (by omega) hb (by omega : b.length < n), Option.bind_some]
  by_cases hm : 1 ≤ model ∧ model ≤ 3
  · rw [bif_not (by omega), bif_not (by omega)]
    simp only [bufOk, numsOk]
    by_cases hr1 : room < 1
    · rw [bif_decide hr1, decide_eq_true hr1]; rfl
    rw [bif_not hr1, decide_eq_false hr1]
    cases decide (4 < room) <;> try rfl
    cases decide (mod < 2) <;> try rfl
    cases decide (16 < mod) <;> try rfl
    cases entsOk b model room mod locs <;> try rfl
    simp only [cond_false, cond_true, endOk]
    have : model = 1 ∨ model = 2 ∨ model = 3 := by omega
    rcases this with rfl | rfl | rfl
    · simp [natEq0]
    · by_cases hl : (b.length : Int) ≤ room
      · simp [hl]
      · have e0 : (b.length == 0) = false := beq_eq_false_iff_ne.2 (by omega)
        simp only [natEq0, e0, decide_eq_false hl]; rfl
    · simp
  · have : bufOk b model room mod locs = false := by
      have : endOk b model room = false := by
        unfold endOk
        rw [if_neg (by omega), if_neg (by omega)]
        exact decide_eq_false (by omega)
      rw [bufOk, this, Bool.and_false]
    rw [this]
    by_cases h1 : model < 1
    · rw [bif_decide h1]
    · rw [bif_not h1, bif_decide (by omega)]
theorem bufOk_nil {b : List EntryS} {model room mod locs : Int} (h : bufOk b model room mod locs = true) : bufOk [] model room mod locs = true := by
  simp only [bufOk, Bool.and_eq_true] at h ⊢
  refine ⟨⟨h.1.1, rfl⟩, ?_⟩
  have h2 := h.2
  have h1 := h.1.1
  simp only [numsOk, Bool.and_eq_true, Bool.not_eq_true', decide_eq_false_iff_not] at h1
  unfold endOk at h2 ⊢
  split
  · rfl
  · split
    · have : (0 : Int) ≤ room := by omega
      simpa using this
    · rename_i g1 g2
      rw [if_neg g1, if_neg g2] at h2; exact h2
end Go.Proofs.Ytaocgmkcjemecaa
